/- Some small texts, joined: PLaws, PNet, PStep, PBack, PStay. -/
import Derived.Test.YtikcdjibflleeaaBaseP
section
set_option linter.unusedVariables false
set_option linter.unusedSimpArgs false
set_option linter.unusedSectionVars false
namespace Gal
theorem upto_split (f : Nat → Int) (a : Nat) : ∀ b, upto f (a + b) = upto f a ++ upto (fun k => f (a + k)) b
  | 0 => by simp [upto]
  | b + 1 => by rw [← Nat.add_assoc, upto_succ, upto_succ, upto_split f a b, List.append_assoc]
theorem upto_parts (f : Nat → Int) {a n : Nat} (h : a ≤ n) : upto f n = upto f a ++ upto (fun k => f (a + k)) (n - a) := by
  rw [← upto_split]
  congr 1
  omega
theorem inEnds_upto {f : Nat → Int} {n : Nat} (h : ∀ k, k < n → clamp (f k) = f k) : inEnds (upto f n) := by
  intro j hj
  rw [upto_length] at hj
  rw [upto_ix hj]
  exact h j hj
theorem ix_left {xs ys : List Int} {k : Nat} (h : k < xs.length) : ix (xs ++ ys) k = ix xs k := by unfold ix; rw [List.getElem?_append_left h]
theorem ix_right {xs ys : List Int} {k : Nat} : ix (xs ++ ys) (xs.length + k) = ix ys k := by unfold ix; rw [List.getElem?_append_right (by omega)]; congr 2; omega
theorem more_append {xs ys row : List Int} {C a : Nat} (h : xs.length = a * C) : moreCells (xs ++ ys) row C = moreCells xs row C ++ moreCells ys row C := by
  unfold moreCells
  rw [List.length_append, upto_split]
  congr 1
  · exact upto_congr fun k hk => by rw [ix_left hk]
  · exact upto_congr fun k hk => by
      rw [ix_right, h]
      congr 2
      rw [Nat.add_comm, Nat.mul_comm, Nat.add_mul_mod_self_left]
theorem mat_form {m : Mat} (h : m.fault = 0) : ∃ (R K : Nat) (xs : List Int), m = ⟨R, K, xs⟩ ∧ R ≤ 24 ∧ K ≤ 12 ∧ xs.length = R * K ∧ inEnds xs := by
  obtain ⟨R, K, eR, eK, hR, hK, hl, he⟩ := matFault_ok h
  obtain ⟨r, c, xs⟩ := m
  dsimp only at eR eK hl he
  subst eR eK
  exact ⟨R, K, xs, rfl, hR, hK, hl, he⟩
theorem go_rows' (l : Lay) (x : Mat) : (l.go x).rows = x.rows := by
  unfold Lay.go
  by_cases h1 : l.kind = 1
  · rw [if_pos h1]
  · rw [if_neg h1]
    by_cases h2 : l.kind = 2
    · rw [if_pos h2]
    · rw [if_neg h2]
      by_cases h3 : l.kind = 3
      · rw [if_pos h3]
      · rw [if_neg h3]
theorem go_cols (l : Lay) (x : Mat) : (l.go x).cols = l.wide x.cols := by
  unfold Lay.go Lay.wide
  by_cases h1 : l.kind = 1
  · rw [if_pos h1, if_pos h1]
  · rw [if_neg h1, if_neg h1]
    by_cases h2 : l.kind = 2
    · rw [if_pos h2]
    · rw [if_neg h2]
      by_cases h3 : l.kind = 3
      · rw [if_pos h3]
      · rw [if_neg h3]
theorem matMul_cells (R K C : Nat) (xs ys : List Int) : (matMul ⟨R, K, xs⟩ ⟨K, C, ys⟩).cells.length = R * C := by
  unfold matMul
  simp only [Int.toNat_natCast]
  exact grid_length _ _ _
theorem clamp_max {x : Int} (h : clamp x = x) : clamp (max x 0) = max x 0 := by
  have h1 := clamp_lo x
  have h2 := clamp_hi x
  rw [h] at h1 h2
  exact clamp_id (by omega) (by omega)
theorem clamp_zero : clamp 0 = 0 := clamp_id (by omega) (by omega)
/-- what comes of a layer is a matrix -/
theorem go_fault {l : Lay} {x : Mat} (hf : l.goFault x = 0) : (l.go x).fault = 0 := by
  obtain ⟨hl, hx, ht⟩ := Lay.goFault_ok hf
  obtain ⟨h1, h2, fw, fb, fit⟩ := Lay.fault_ok hl
  obtain ⟨R, K, xs, rfl, hR, hK, hlen, hin⟩ := mat_form hx
  unfold Lay.go
  by_cases k1 : l.kind = 1
  · rw [if_pos k1]
    obtain ⟨R', C, ws, hW, hR', hC, hlw, _⟩ := mat_form fw
    have e := ht.1 k1
    rw [hW] at e ⊢
    dsimp only at e
    obtain rfl : K = R' := by omega
    exact matFault_zero hR hC (by rw [moreCells_length, matMul_cells]) (inEnds_upto fun k _ => clamp_clamp _)
  · rw [if_neg k1]
    by_cases k2 : l.kind = 2
    · rw [if_pos k2]
      exact matFault_zero hR hK (by rw [upto_length]; exact hlen) (inEnds_upto fun k hk => clamp_max (hin k hk))
    · rw [if_neg k2]
      by_cases k3 : l.kind = 3
      · rw [if_pos k3]
        exact matFault_zero hR hK (by rw [upto_length]; exact hlen) (inEnds_upto fun k hk => clamp_clamp _)
      · rw [if_neg k3]
        exact matFault_zero hR hK (by rw [moreCells_length]; exact hlen) (inEnds_upto fun k hk => clamp_clamp _)
/-- what goes back is a matrix, as x -/
theorem back_fault {l : Lay} {x g : Mat} (hf : l.backFault x g = 0) : (l.back x g).fault = 0 ∧ (l.back x g).rows = x.rows ∧ (l.back x g).cols = x.cols := by
  obtain ⟨f1, f2, f3, f4, f5⟩ := Lay.backFault_ok hf
  obtain ⟨hl, hx, ht⟩ := Lay.goFault_ok f1
  obtain ⟨h1, h2, fw, fb, fit⟩ := Lay.fault_ok hl
  obtain ⟨R, K, xs, rfl, hR, hK, hlen, hin⟩ := mat_form hx
  obtain ⟨R', K', ys, rfl, hR', hK', hlen', hin'⟩ := mat_form f2
  dsimp only at f3 f4 f5 ht
  obtain rfl : R' = R := by omega
  unfold Lay.back
  by_cases k1 : l.kind = 1
  · rw [if_pos k1]
    obtain ⟨Q, C, ws, hW, hQ, hC, hlw, _⟩ := mat_form fw
    have e := ht.1 k1
    have e2 : (K' : Int) = l.W.cols := by rw [f4]; unfold Lay.wide; rw [if_pos k1]
    rw [hW] at e e2 ⊢
    dsimp only at e e2
    obtain rfl : K = Q := by omega
    obtain rfl : K' = C := by omega
    refine ⟨?_, rfl, rfl⟩
    unfold matTurn
    exact matMul_fault hR hK
  · rw [if_neg k1]
    have e2 : (K' : Int) = K := by rw [f4]; unfold Lay.wide; rw [if_neg k1]
    obtain rfl : K' = K := by omega
    by_cases k2 : l.kind = 2
    · rw [if_pos k2]
      refine ⟨matFault_zero hR hK (by rw [upto_length]; exact hlen) (inEnds_upto fun k hk => ?_), rfl, rfl⟩
      by_cases hp : 0 < ix xs k
      · dsimp only; rw [if_pos hp]; exact hin' k (by rw [hlen', ← hlen]; exact hk)
      · dsimp only; rw [if_neg hp]; exact clamp_zero
    · rw [if_neg k2]
      by_cases k3 : l.kind = 3
      · rw [if_pos k3]
        exact ⟨matFault_zero hR hK (by rw [upto_length]; exact hlen') (inEnds_upto fun k hk => clamp_clamp _), rfl, rfl⟩
      · rw [if_neg k3]
        exact ⟨matFault_zero hR hK (by rw [upto_length]; exact hlen') (inEnds_upto fun k hk => hin' k hk), rfl, rfl⟩
section
variable {l : Lay} {R K k : Nat} {xs : List Int} (hk : k ≤ R)
include hk
/-- rows do not mind one another, there -/
theorem go_parts (hf : l.goFault ⟨R, K, xs⟩ = 0) :
    l.goFault (topOf R K xs k) = 0 ∧ l.goFault (botOf R K xs k) = 0 ∧ stackFault [l.go (topOf R K xs k), l.go (botOf R K xs k)] = 0 ∧ matStack [l.go (topOf R K xs k), l.go (botOf R K xs k)] = l.go ⟨R, K, xs⟩ := by
  obtain ⟨hl, hx, ht⟩ := Lay.goFault_ok hf
  obtain ⟨h1, h2, fw, fb, fit⟩ := Lay.fault_ok hl
  obtain ⟨R', K', eR, eK, hR, hK, hlen, hin⟩ := matFault_ok hx
  dsimp only at eR eK hlen hin
  obtain rfl : R = R' := by omega
  obtain rfl : K = K' := by omega
  have f1 : l.goFault (topOf R K xs k) = 0 := by unfold Lay.goFault; rw [if_neg (by simp [hl]), if_neg (by simp [top_fault hk hlen hR hK hin]), if_pos (show l.takes (topOf R K xs k).cols from ht)]
  have f2 : l.goFault (botOf R K xs k) = 0 := by unfold Lay.goFault; rw [if_neg (by simp [hl]), if_neg (by simp [bot_fault hk hlen hR hK hin]), if_pos (show l.takes (botOf R K xs k).cols from ht)]
  have hkK := kK (K := K) hk hlen
  refine ⟨f1, f2, stack_two hk hlen (go_fault f1) (go_fault f2) (by rw [go_cols, go_cols]; rfl) (by rw [go_rows', go_rows']; show (k : Int) + ((R - k : Nat) : Int) ≤ 24; omega), ?_⟩
  rw [stack_is hk hlen, go_rows', go_rows', go_cols]
  have hcell : (l.go (topOf R K xs k)).cells ++ (l.go (botOf R K xs k)).cells = (l.go ⟨R, K, xs⟩).cells := by
    have e1 : (xs.take (k * K)).length = k * K := by rw [List.length_take]; omega
    have e2 : (xs.drop (k * K)).length = R * K - k * K := by rw [List.length_drop]; omega
    have e3 : xs.take (k * K) ++ xs.drop (k * K) = xs := List.take_append_drop _ _
    unfold Lay.go
    by_cases k1 : l.kind = 1
    · simp only [if_pos k1]
      obtain ⟨Q, C, ws, hW, hQ, hC, hlw, _⟩ := mat_form fw
      have e := ht.1 k1
      rw [hW] at e ⊢
      dsimp only at e
      obtain rfl : K = Q := by omega
      have hp := congrArg Mat.cells (mul_parts (C := C) (ys := ws) hk hlen)
      rw [stack_is hk hlen] at hp
      dsimp only at hp ⊢
      rw [← hp, more_append (a := k)]
      exact matMul_cells k K C _ _
    · simp only [if_neg k1]
      by_cases k2 : l.kind = 2
      · simp only [if_pos k2]
        show upto _ (xs.take (k * K)).length ++ upto _ (xs.drop (k * K)).length = upto _ xs.length
        rw [e1, e2, hlen, upto_parts _ hkK]
        congr 1
        · exact upto_congr fun j hj => by show max (ix (xs.take (k * K)) j) 0 = _; rw [ix_take hj]
        · exact upto_congr fun j hj => by show max (ix (xs.drop (k * K)) j) 0 = _; rw [ix_drop]
      · simp only [if_neg k2]
        by_cases k3 : l.kind = 3
        · simp only [if_pos k3]
          show upto _ (xs.take (k * K)).length ++ upto _ (xs.drop (k * K)).length = upto _ xs.length
          rw [e1, e2, hlen, upto_parts _ hkK]
          congr 1
          · exact upto_congr fun j hj => by show mul (ix (xs.take (k * K)) j) _ = _; rw [ix_take hj]
          · exact upto_congr fun j hj => by show mul (ix (xs.drop (k * K)) j) _ = _; rw [ix_drop]
        · simp only [if_neg k3]
          show moreCells (xs.take (k * K)) _ (K : Int).toNat ++ moreCells (xs.drop (k * K)) _ (K : Int).toNat = moreCells xs _ (K : Int).toNat
          rw [Int.toNat_natCast, ← more_append (a := k) e1, e3]
  rw [hcell]
  have e4 : (topOf R K xs k).rows + (botOf R K xs k).rows = (l.go ⟨R, K, xs⟩).rows := by rw [go_rows']; show (k : Int) + ((R - k : Nat) : Int) = R; omega
  have e5 : l.wide (topOf R K xs k).cols = (l.go ⟨R, K, xs⟩).cols := by rw [go_cols]; rfl
  rw [e4, e5]
/-- likewise what goes back -/
theorem back_parts {C : Nat} {ys : List Int} (hf : l.backFault ⟨R, K, xs⟩ ⟨R, C, ys⟩ = 0) :
    l.backFault (topOf R K xs k) (topOf R C ys k) = 0 ∧ l.backFault (botOf R K xs k) (botOf R C ys k) = 0 ∧
    stackFault [l.back (topOf R K xs k) (topOf R C ys k), l.back (botOf R K xs k) (botOf R C ys k)] = 0 ∧ matStack [l.back (topOf R K xs k) (topOf R C ys k), l.back (botOf R K xs k) (botOf R C ys k)] = l.back ⟨R, K, xs⟩ ⟨R, C, ys⟩ := by
  have hf0 := hf
  obtain ⟨g1, g2, g3, g4, g5⟩ := Lay.backFault_ok hf
  obtain ⟨hl, hx, ht⟩ := Lay.goFault_ok g1
  obtain ⟨h1, h2, fw, fb, fit⟩ := Lay.fault_ok hl
  obtain ⟨R', K', eR, eK, hR, hK, hlen, hin⟩ := matFault_ok hx
  dsimp only at eR eK hlen hin
  obtain rfl : R = R' := by omega
  obtain rfl : K = K' := by omega
  obtain ⟨R'', C', eR', eC, _, hC, hlen', hin'⟩ := matFault_ok g2
  dsimp only at eR' eC hlen' hin'
  obtain rfl : R = R'' := by omega
  obtain rfl : C = C' := by omega
  obtain ⟨f1, f2, _, _⟩ := go_parts hk g1
  have b1 : l.backFault (topOf R K xs k) (topOf R C ys k) = 0 := by
    unfold Lay.backFault
    rw [if_neg (by simp [f1]), if_neg (by simp [top_fault hk hlen' hR hC hin']), if_neg, if_neg]
    · rintro ⟨q, q'⟩; have := g5 q; simp only [topOf] at q' this; omega
    · simp only [topOf] at g4 ⊢
      intro q
      rcases q with q | q
      · exact q rfl
      · exact q g4
  have b2 : l.backFault (botOf R K xs k) (botOf R C ys k) = 0 := by
    unfold Lay.backFault
    rw [if_neg (by simp [f2]), if_neg (by simp [bot_fault hk hlen' hR hC hin']), if_neg, if_neg]
    · rintro ⟨q, q'⟩; have := g5 q; simp only [botOf] at q' this; omega
    · simp only [botOf] at g4 ⊢
      intro q
      rcases q with q | q
      · exact q rfl
      · exact q g4
  obtain ⟨c1, c2, c3⟩ := back_fault b1
  obtain ⟨d1, d2, d3⟩ := back_fault b2
  obtain ⟨_, w2, w3⟩ := back_fault hf
  refine ⟨b1, b2, stack_two hk hlen c1 d1 (by rw [c3, d3]; rfl) (by rw [c2, d2]; show (k : Int) + ((R - k : Nat) : Int) ≤ 24; omega), ?_⟩
  rw [stack_is hk hlen, c2, d2, c3]
  have hkK := kK (K := K) hk hlen
  have hkC := kK (K := C) hk hlen'
  have hcell : (l.back (topOf R K xs k) (topOf R C ys k)).cells ++ (l.back (botOf R K xs k) (botOf R C ys k)).cells = (l.back ⟨R, K, xs⟩ ⟨R, C, ys⟩).cells := by
    have e1 : (xs.take (k * K)).length = k * K := by rw [List.length_take]; omega
    have e2 : (xs.drop (k * K)).length = R * K - k * K := by rw [List.length_drop]; omega
    have e1' : (ys.take (k * C)).length = k * C := by rw [List.length_take]; omega
    have e2' : (ys.drop (k * C)).length = R * C - k * C := by rw [List.length_drop]; omega
    have e3 : xs.take (k * K) ++ xs.drop (k * K) = xs := List.take_append_drop _ _
    unfold Lay.back
    by_cases k1 : l.kind = 1
    · simp only [if_pos k1]
      obtain ⟨Q, D, ws, hW, hQ, hD, hlw, _⟩ := mat_form fw
      have e := ht.1 k1
      have e5 : (C : Int) = l.W.cols := by dsimp only at g4; rw [g4]; unfold Lay.wide; rw [if_pos k1]
      rw [hW] at e e5 ⊢
      dsimp only at e e5
      obtain rfl : K = Q := by omega
      obtain rfl : C = D := by omega
      have hp := congrArg Mat.cells (mul_parts (C := K) (ys := (matTurn ⟨K, C, ws⟩).cells) hk hlen')
      rw [stack_is hk hlen'] at hp
      exact hp
    · simp only [if_neg k1]
      have e5 : C = K := by
        have : (C : Int) = K := by dsimp only at g4; rw [g4]; unfold Lay.wide; rw [if_neg k1]
        omega
      subst e5
      by_cases k2 : l.kind = 2
      · simp only [if_pos k2]
        show upto _ (xs.take (k * C)).length ++ upto _ (xs.drop (k * C)).length = upto _ xs.length
        rw [e1, e2, hlen, upto_parts _ hkK]
        congr 1
        · exact upto_congr fun j hj => by show (if 0 < ix (xs.take (k * C)) j then ix (ys.take (k * C)) j else 0) = _; rw [ix_take hj, ix_take hj]
        · exact upto_congr fun j hj => by show (if 0 < ix (xs.drop (k * C)) j then ix (ys.drop (k * C)) j else 0) = _; rw [ix_drop, ix_drop]
      · simp only [if_neg k2]
        by_cases k3 : l.kind = 3
        · simp only [if_pos k3]
          show upto _ (ys.take (k * C)).length ++ upto _ (ys.drop (k * C)).length = upto _ ys.length
          rw [e1', e2', hlen', upto_parts _ hkC]
          congr 1
          · exact upto_congr fun j hj => by show mul (ix (ys.take (k * C)) j) _ = _; rw [ix_take hj]
          · exact upto_congr fun j hj => by show mul (ix (ys.drop (k * C)) j) _ = _; rw [ix_drop]
        · simp only [if_neg k3]
          show upto (ix (ys.take (k * C))) (ys.take (k * C)).length ++ upto (ix (ys.drop (k * C))) (ys.drop (k * C)).length = upto (ix ys) ys.length
          rw [upto_self, upto_self, upto_self, List.take_append_drop]
  rw [hcell]
  have e4 : (topOf R K xs k).rows + (botOf R K xs k).rows = (l.back ⟨R, K, xs⟩ ⟨R, C, ys⟩).rows := by rw [w2]; show (k : Int) + ((R - k : Nat) : Int) = R; omega
  have e5 : (topOf R K xs k).cols = (l.back ⟨R, K, xs⟩ ⟨R, C, ys⟩).cols := by rw [w3]; rfl
  rw [e4, e5]
end
/-- the layer that lets by what is above nought -/
def reluL : Lay := ⟨2, Mat.none, Mat.none⟩
theorem reluL_fault : reluL.fault = 0 := by decide
theorem reluL_go (x : Mat) : reluL.goFault x = x.fault := by
  unfold Lay.goFault
  rw [if_neg (by simp [reluL_fault])]
  by_cases h : x.fault = 0
  · rw [if_neg (by simp [h]), if_pos (by constructor <;> intro q <;> exact absurd q (by decide)), h]
  · rw [if_pos h]
theorem reluL_is (x : Mat) : reluL.go x = ⟨x.rows, x.cols, upto (fun k => max (ix x.cells k) 0) x.cells.length⟩ := rfl
theorem reluL_twice (x : Mat) : reluL.go (reluL.go x) = reluL.go x := by
  rw [reluL_is (reluL.go x)]
  rw [reluL_is x]
  simp only [upto_length]
  congr 1
  exact upto_congr fun k hk => by rw [upto_ix hk]; omega
/-- layers that do nothing -/
def unitL (K : Nat) : Lay := ⟨1, ⟨K, K, unitTo K K⟩, ⟨1, K, zeros K⟩⟩
def oneL : Lay := ⟨3, ⟨1, 1, [256]⟩, Mat.none⟩
def noughtL (K : Nat) : Lay := ⟨4, Mat.none, ⟨1, K, zeros K⟩⟩
theorem zeros_inEnds (n : Nat) : inEnds (zeros n) := fun j _ => by rw [zeros_ix]; exact clamp_zero
theorem zeros_ok {K : Nat} (hK : K ≤ 12) : (⟨1, K, zeros K⟩ : Mat).fault = 0 := matFault_zero (R := 1) (by omega) hK (by rw [zeros_length]; omega) (zeros_inEnds K)
theorem more_zeros {xs : List Int} {K : Nat} (h : inEnds xs) : moreCells xs (zeros K) K = xs := by
  unfold moreCells
  refine Eq.trans (upto_congr fun k hk => ?_) upto_self
  rw [zeros_ix, add_zero]
  exact h k hk
theorem unit_turn (K : Nat) : matTurn ⟨K, K, unitTo K K⟩ = ⟨K, K, unitTo K K⟩ := by
  unfold matTurn
  simp only [Int.toNat_natCast]
  congr 1
  unfold unitTo
  exact grid_congr fun i j hi hj => by
    rw [grid_ix _ K K j i hj hi]
    by_cases h : i = j
    · subst h; rfl
    · rw [if_neg (by omega), if_neg (by omega)]
section
variable {R K : Nat} {xs : List Int} (hK1 : 1 ≤ K) (hf : (⟨R, K, xs⟩ : Mat).fault = 0)
include hK1 hf
theorem unitL_ok : (unitL K).goFault ⟨R, K, xs⟩ = 0 ∧ (unitL K).go ⟨R, K, xs⟩ = ⟨R, K, xs⟩ := by
  obtain ⟨R', K', eR, eK, hR, hK, hlen, hin⟩ := matFault_ok hf
  dsimp only at eR eK hlen hin
  obtain rfl : R = R' := by omega
  obtain rfl : K = K' := by omega
  have h1 : (unitL K).fault = 0 := by
    unfold Lay.fault
    rw [if_neg (by simp [unitL]), if_neg (by simpa [unitL, Mat.fault] using unit_ok hK), if_neg (by simpa [unitL] using zeros_ok hK), if_pos]
    exact Or.inl ⟨rfl, by show (0 : Int) < K; omega, by show (0 : Int) < K; omega, by show (K : Int) ≤ 12; omega, rfl, rfl⟩
  refine ⟨?_, ?_⟩
  · unfold Lay.goFault
    rw [if_neg (by simp [h1]), if_neg (by simp [hf]), if_pos]
    exact ⟨fun _ => rfl, fun h => absurd (show (1 : Int) = 4 from h) (by decide)⟩
  · show (⟨_, _, moreCells (matMul ⟨R, K, xs⟩ ⟨K, K, unitTo K K⟩).cells (zeros K) (K : Int).toNat⟩ : Mat) = _
    rw [unit_law hlen hin, Int.toNat_natCast, more_zeros hin]
    rfl
theorem oneL_ok : oneL.goFault ⟨R, K, xs⟩ = 0 ∧ oneL.go ⟨R, K, xs⟩ = ⟨R, K, xs⟩ := by
  obtain ⟨R', K', eR, eK, hR, hK, hlen, hin⟩ := matFault_ok hf
  dsimp only at eR eK hlen hin
  have h1 : oneL.fault = 0 := by decide
  refine ⟨?_, ?_⟩
  · unfold Lay.goFault
    rw [if_neg (by simp [h1]), if_neg (by simp [hf]), if_pos]
    exact ⟨fun h => absurd h (by decide), fun h => absurd h (by decide)⟩
  · show (⟨R, K, upto (fun k => mul (ix xs k) 256) xs.length⟩ : Mat) = _
    congr 1
    exact Eq.trans (upto_congr fun k hk => by rw [mul_one]; exact hin k hk) upto_self
theorem noughtL_ok : (noughtL K).goFault ⟨R, K, xs⟩ = 0 ∧ (noughtL K).go ⟨R, K, xs⟩ = ⟨R, K, xs⟩ := by
  obtain ⟨R', K', eR, eK, hR, hK, hlen, hin⟩ := matFault_ok hf
  dsimp only at eR eK hlen hin
  obtain rfl : R = R' := by omega
  obtain rfl : K = K' := by omega
  have h1 : (noughtL K).fault = 0 := by
    unfold Lay.fault
    rw [if_neg (by simp [noughtL]), if_neg (by simp [noughtL]; decide), if_neg (by simpa [noughtL] using zeros_ok hK), if_pos]
    exact Or.inr (Or.inr (Or.inr ⟨rfl, ⟨rfl, rfl⟩, rfl, by show (0 : Int) < K; omega⟩))
  refine ⟨?_, ?_⟩
  · unfold Lay.goFault
    rw [if_neg (by simp [h1]), if_neg (by simp [hf]), if_pos]
    exact ⟨fun h => absurd (show (4 : Int) = 1 from h) (by decide), fun _ => rfl⟩
  · show (⟨R, K, moreCells xs (zeros K) (K : Int).toNat⟩ : Mat) = _
    rw [Int.toNat_natCast, more_zeros hin]
end
theorem unitL_back {K : Nat} {x g : Mat} (hf : (unitL K).backFault x g = 0) : (unitL K).back x g = g := by
  obtain ⟨g1, g2, g3, g4, g5⟩ := Lay.backFault_ok hf
  obtain ⟨R, C, ys, rfl, hR, hC, hlen, hin⟩ := mat_form g2
  dsimp only at g4
  obtain rfl : C = K := by
    have : (C : Int) = K := g4
    omega
  show matMul ⟨R, C, ys⟩ (matTurn ⟨C, C, unitTo C C⟩) = _
  rw [unit_turn, unit_law hlen hin]
theorem oneL_back {x g : Mat} (hf : oneL.backFault x g = 0) : oneL.back x g = g := by
  obtain ⟨g1, g2, g3, g4, g5⟩ := Lay.backFault_ok hf
  obtain ⟨R, C, ys, rfl, hR, hC, hlen, hin⟩ := mat_form g2
  show (⟨R, C, upto (fun k => mul (ix ys k) 256) ys.length⟩ : Mat) = _
  congr 1
  exact Eq.trans (upto_congr fun k hk => by rw [mul_one]; exact hin k hk) upto_self
theorem noughtL_back {K : Nat} {x g : Mat} : (noughtL K).back x g = g := by
  show (⟨g.rows, g.cols, upto (ix g.cells) g.cells.length⟩ : Mat) = g
  rw [upto_self]
end Gal
end
section
set_option linter.unusedVariables false
set_option linter.unusedSimpArgs false
namespace Gal
def Lay.none : Lay := ⟨0, Mat.none, Mat.none⟩
def lx (n : List Lay) (i : Nat) : Lay := n[i]?.getD Lay.none
theorem lx_of {n : List Lay} {i : Nat} {l : Lay} (h : n[i]? = some l) : lx n i = l := by unfold lx; rw [h]; rfl
theorem lx_get {n : List Lay} {i : Nat} (h : i < n.length) : n[i]? = some (lx n i) := by unfold lx; rw [List.getElem?_eq_getElem h]; rfl
/-- how wide it is behind the first k layers -/
def netW (n : List Lay) (i : Int) : Nat → Int
  | 0 => i
  | k + 1 => (lx n k).wide (netW n i k)
/-- what is wrong with the first k layers, of so many columns -/
def wideTo (n : List Lay) (i : Int) : Nat → Int
  | 0 => 0
  | k + 1 => if wideTo n i k = 0 then (lx n k).wideFault (netW n i k) else wideTo n i k
def netWideFault (n : List Lay) (i : Int) : Int :=
  if 12 < n.length then 3 else if n.length = 0 ∧ (i < 0 ∨ 12 < i) then 1 else wideTo n i n.length
/-- what comes behind the first k layers -/
def netTo (n : List Lay) (x : Mat) : Nat → Mat
  | 0 => x
  | k + 1 => (lx n k).go (netTo n x k)
def goTo (n : List Lay) (x : Mat) : Nat → Int
  | 0 => 0
  | k + 1 => if goTo n x k = 0 then (lx n k).goFault (netTo n x k) else goTo n x k
def netGoFault (n : List Lay) (x : Mat) : Int := if 12 < n.length then 3 else if x.fault ≠ 0 then x.fault else goTo n x n.length
/-- what stands behind each of the first k layers -/
def netOuts (n : List Lay) (x : Mat) (k : Nat) : List Mat := (List.range (k + 1)).map (netTo n x)
theorem netOuts_zero (n : List Lay) (x : Mat) : netOuts n x 0 = [x] := rfl
theorem netOuts_succ (n : List Lay) (x : Mat) (k : Nat) : netOuts n x (k + 1) = netOuts n x k ++ [netTo n x (k + 1)] := by
  unfold netOuts
  rw [List.range_succ (n := k + 1), List.map_append]
  rfl
theorem netOuts_length (n : List Lay) (x : Mat) (k : Nat) : (netOuts n x k).length = k + 1 := by simp [netOuts]
theorem netOuts_last (n : List Lay) (x : Mat) (k : Nat) : (netOuts n x k)[k]? = some (netTo n x k) := by simp [netOuts]
theorem wideTo_stop {n : List Lay} {i : Int} {k m : Nat} (h : k ≤ m) (hk : wideTo n i k ≠ 0) : wideTo n i m = wideTo n i k := by
  induction m with
  | zero => obtain rfl : k = 0 := by omega
            rfl
  | succ m ih =>
    by_cases hm : k ≤ m
    · have := ih hm
      show (if wideTo n i m = 0 then _ else wideTo n i m) = _
      rw [if_neg (by rw [this]; exact hk), this]
    · obtain rfl : k = m + 1 := by omega
      rfl
theorem goTo_stop {n : List Lay} {x : Mat} {k m : Nat} (h : k ≤ m) (hk : goTo n x k ≠ 0) : goTo n x m = goTo n x k := by
  induction m with
  | zero => obtain rfl : k = 0 := by omega
            rfl
  | succ m ih =>
    by_cases hm : k ≤ m
    · have := ih hm
      show (if goTo n x m = 0 then _ else goTo n x m) = _
      rw [if_neg (by rw [this]; exact hk), this]
    · obtain rfl : k = m + 1 := by omega
      rfl
theorem wideTo_succ {n : List Lay} {i : Int} {k : Nat} (h : wideTo n i k = 0) : wideTo n i (k + 1) = (lx n k).wideFault (netW n i k) := if_pos h
theorem goTo_succ {n : List Lay} {x : Mat} {k : Nat} (h : goTo n x k = 0) : goTo n x (k + 1) = (lx n k).goFault (netTo n x k) := if_pos h
/-- widths behind layers without a fault lie between 0 and 12 -/
theorem wide_bd {l : Lay} {i : Int} (h : l.wideFault i = 0) : 0 ≤ l.wide i ∧ l.wide i ≤ 12 := by
  obtain ⟨h1, h2, h3, h4⟩ := Lay.wideFault_ok h
  obtain ⟨_, _, fw, _, _⟩ := Lay.fault_ok h1
  obtain ⟨R, K, _, e, _, hK, _⟩ := matFault_ok fw
  unfold Lay.wide
  by_cases q : l.kind = 1
  · rw [if_pos q]; omega
  · rw [if_neg q]; omega
theorem netW_bd {n : List Lay} {i : Int} {k : Nat} (h : wideTo n i k = 0) (hk : 0 < k) : 0 ≤ netW n i k ∧ netW n i k ≤ 12 := by
  cases k with
  | zero => omega
  | succ k =>
    by_cases h0 : wideTo n i k = 0
    · rw [wideTo_succ h0] at h
      exact wide_bd h
    · have : wideTo n i (k + 1) = wideTo n i k := if_neg h0
      rw [this] at h
      exact absurd h h0
theorem netTo_fault {n : List Lay} {x : Mat} {k : Nat} (hx : x.fault = 0) (h : goTo n x k = 0) : (netTo n x k).fault = 0 := by
  cases k with
  | zero => exact hx
  | succ k =>
    by_cases h0 : goTo n x k = 0
    · rw [goTo_succ h0] at h
      exact go_fault h
    · have : goTo n x (k + 1) = goTo n x k := if_neg h0
      rw [this] at h
      exact absurd h h0
end Gal
end
section
set_option linter.unusedVariables false
set_option linter.unusedSimpArgs false
namespace Gal
def gx (ds : List Grd) (i : Nat) : Grd := ds[i]?.getD Grd.none
theorem gx_get {ds : List Grd} {i : Nat} (h : i < ds.length) : ds[i]? = some (gx ds i) := by unfold gx; rw [List.getElem?_eq_getElem h]; rfl
/-- the new speed of a part -/
def stepSpeed (w v d : Mat) (kp : Int) : Mat := ⟨w.rows, w.cols, upto (fun k => add (mul (ix v.cells k) kp) (ix d.cells k)) w.cells.length⟩
/-- the new part -/
def stepTo (w v d : Mat) (ln kp : Int) : Mat := ⟨w.rows, w.cols, upto (fun k => sub (ix w.cells k) (mul (add (mul (ix v.cells k) kp) (ix d.cells k)) ln)) w.cells.length⟩
def likeShape (a b : Mat) : Prop := a.rows = b.rows ∧ a.cols = b.cols
instance (a b : Mat) : Decidable (likeShape a b) := by unfold likeShape; exact inferInstance
/-- what is wrong with a layer, its speed and by how much -/
def fitsFault (l : Lay) (v d : Grd) : Int :=
  if l.fault ≠ 0 then l.fault else if v.W.fault ≠ 0 then v.W.fault else if v.B.fault ≠ 0 then v.B.fault else if d.W.fault ≠ 0 then d.W.fault else if d.B.fault ≠ 0 then d.B.fault else
    if likeShape v.W l.W ∧ likeShape v.B l.B ∧ likeShape d.W l.W ∧ likeShape d.B l.B then 0 else 2
theorem fitsFault_ok {l : Lay} {v d : Grd} (h : fitsFault l v d = 0) : l.fault = 0 ∧ v.W.fault = 0 ∧ v.B.fault = 0 ∧ d.W.fault = 0 ∧ d.B.fault = 0 ∧ likeShape v.W l.W ∧ likeShape v.B l.B ∧ likeShape d.W l.W ∧ likeShape d.B l.B := by
  unfold fitsFault at h
  by_cases h1 : l.fault = 0
  · rw [if_neg (by simp [h1])] at h
    by_cases h2 : v.W.fault = 0
    · rw [if_neg (by simp [h2])] at h
      by_cases h3 : v.B.fault = 0
      · rw [if_neg (by simp [h3])] at h
        by_cases h4 : d.W.fault = 0
        · rw [if_neg (by simp [h4])] at h
          by_cases h5 : d.B.fault = 0
          · rw [if_neg (by simp [h5])] at h
            by_cases h6 : likeShape v.W l.W ∧ likeShape v.B l.B ∧ likeShape d.W l.W ∧ likeShape d.B l.B
            · exact ⟨h1, h2, h3, h4, h5, h6⟩
            · rw [if_neg h6] at h; omega
          · rw [if_pos h5] at h; exact absurd h h5
        · rw [if_pos h4] at h; exact absurd h h4
      · rw [if_pos h3] at h; exact absurd h h3
    · rw [if_pos h2] at h; exact absurd h h2
  · rw [if_pos h1] at h; exact absurd h h1
def stepFaultTo (ls : List Lay) (vs ds : List Grd) : Nat → Int
  | 0 => 0
  | k + 1 => if stepFaultTo ls vs ds k = 0 then fitsFault (lx ls k) (gx vs k) (gx ds k) else stepFaultTo ls vs ds k
def stepFault (ls : List Lay) (vs ds : List Grd) (ln kp : Int) : Int :=
  if ln < 0 ∨ 256 < ln ∨ kp < 0 ∨ 256 < kp then 1 else if 12 < ls.length then 3 else if vs.length ≠ ls.length ∨ ds.length ≠ ls.length then 2 else stepFaultTo ls vs ds ls.length
theorem stepFaultTo_succ {ls : List Lay} {vs ds : List Grd} {k : Nat} (h : stepFaultTo ls vs ds k = 0) : stepFaultTo ls vs ds (k + 1) = fitsFault (lx ls k) (gx vs k) (gx ds k) := if_pos h
theorem stepFaultTo_stop {ls : List Lay} {vs ds : List Grd} {k m : Nat} (h : k ≤ m) (hk : stepFaultTo ls vs ds k ≠ 0) : stepFaultTo ls vs ds m = stepFaultTo ls vs ds k := by
  induction m with
  | zero => obtain rfl : k = 0 := by omega
            rfl
  | succ m ih =>
    by_cases hm : k ≤ m
    · have := ih hm
      show (if stepFaultTo ls vs ds m = 0 then _ else stepFaultTo ls vs ds m) = _
      rw [if_neg (by rw [this]; exact hk), this]
    · obtain rfl : k = m + 1 := by omega
      rfl
def stepLay (l : Lay) (v d : Grd) (ln kp : Int) : Lay := ⟨l.kind, stepTo l.W v.W d.W ln kp, stepTo l.B v.B d.B ln kp⟩
def stepGrd (l : Lay) (v d : Grd) (kp : Int) : Grd := ⟨stepSpeed l.W v.W d.W kp, stepSpeed l.B v.B d.B kp⟩
def stepLays (ls : List Lay) (vs ds : List Grd) (ln kp : Int) (k : Nat) : List Lay := (List.range k).map fun i => stepLay (lx ls i) (gx vs i) (gx ds i) ln kp
def stepGrds (ls : List Lay) (vs ds : List Grd) (kp : Int) (k : Nat) : List Grd := (List.range k).map fun i => stepGrd (lx ls i) (gx vs i) (gx ds i) kp
theorem stepLays_length (ls : List Lay) (vs ds : List Grd) (ln kp : Int) (k : Nat) : (stepLays ls vs ds ln kp k).length = k := by simp [stepLays]
theorem stepGrds_length (ls : List Lay) (vs ds : List Grd) (kp : Int) (k : Nat) : (stepGrds ls vs ds kp k).length = k := by simp [stepGrds]
theorem stepLays_succ (ls : List Lay) (vs ds : List Grd) (ln kp : Int) (k : Nat) : stepLays ls vs ds ln kp (k + 1) = stepLays ls vs ds ln kp k ++ [stepLay (lx ls k) (gx vs k) (gx ds k) ln kp] := by simp [stepLays, List.range_succ]
theorem stepGrds_succ (ls : List Lay) (vs ds : List Grd) (kp : Int) (k : Nat) : stepGrds ls vs ds kp (k + 1) = stepGrds ls vs ds kp k ++ [stepGrd (lx ls k) (gx vs k) (gx ds k) kp] := by simp [stepGrds, List.range_succ]
end Gal
end
section
set_option linter.unusedVariables false
set_option linter.unusedSimpArgs false
namespace Gal
section
variable (ls : List Lay) (ss : List Mat) (g : Mat) (n : Nat)
/-- what comes ahead of the last k of n layers -/
def bM : Nat → Mat
  | 0 => g
  | k + 1 => (lx ls (n - 1 - k)).back (mx ss (n - 1 - k)) (bM k)
/-- by how much the layer behind which k are is to be turned -/
def bD (k : Nat) : Grd := (lx ls (n - 1 - k)).grad (mx ss (n - 1 - k)) (bM ls ss g n k)
def bF : Nat → Int
  | 0 => 0
  | k + 1 => if bF k = 0 then (lx ls (n - 1 - k)).backFault (mx ss (n - 1 - k)) (bM ls ss g n k) else bF k
/-- how the layers are to be turned -/
def bDs : List Grd := (List.range n).map fun j => bD ls ss g n (n - 1 - j)
def netBackFault : Int := if 12 < ls.length then 3 else if ss.length ≠ ls.length + 1 then 2 else if ls.length = 0 then g.fault else bF ls ss g ls.length ls.length
end
section
variable {ls : List Lay} {ss : List Mat} {g : Mat} {n k m : Nat}
theorem bF_next (h : bF ls ss g n k = 0) : bF ls ss g n (k + 1) = (lx ls (n - 1 - k)).backFault (mx ss (n - 1 - k)) (bM ls ss g n k) := if_pos h
theorem bF_stays (h : k ≤ m) (hk : bF ls ss g n k ≠ 0) : bF ls ss g n m = bF ls ss g n k := by
  induction m with
  | zero => obtain rfl : k = 0 := by omega
            rfl
  | succ m ih =>
    rcases Nat.lt_or_ge k (m + 1) with h1 | h1
    · have e := ih (by omega)
      show (if bF ls ss g n m = 0 then _ else _) = _
      rw [if_neg (by rw [e]; exact hk), e]
    · obtain rfl : k = m + 1 := by omega
      rfl
theorem bF_stop (hk : k < n) (hz : bF ls ss g n k = 0) (hf : (lx ls (n - 1 - k)).backFault (mx ss (n - 1 - k)) (bM ls ss g n k) ≠ 0) : bF ls ss g n n = (lx ls (n - 1 - k)).backFault (mx ss (n - 1 - k)) (bM ls ss g n k) := by
  rw [bF_stays (k := k + 1) (by omega) (by rw [bF_next hz]; exact hf), bF_next hz]
theorem bDs_length : (bDs ls ss g n).length = n := by simp [bDs]
theorem bDs_gx {j : Nat} (h : j < n) : gx (bDs ls ss g n) j = bD ls ss g n (n - 1 - j) := by
  unfold gx bDs
  rw [List.getElem?_map, List.getElem?_eq_getElem (by simpa using h)]
  simp
end
section
variable (ls : List Lay) (ss : List Mat) (g : Mat)
/-- what has come of layers taken in any order: what goes on back, and by how much each is to be turned -/
def gone (l : List Nat) : Mat × (Nat → Option Grd) :=
  l.foldl (fun s i => ((lx ls i).back (mx ss i) s.1, fun j => if j = i then some ((lx ls i).grad (mx ss i) s.1) else s.2 j)) (g, fun _ => none)
theorem gone_snoc (l : List Nat) (i : Nat) : gone ls ss g (l ++ [i]) = ((lx ls i).back (mx ss i) (gone ls ss g l).1, fun j => if j = i then some ((lx ls i).grad (mx ss i) (gone ls ss g l).1) else (gone ls ss g l).2 j) := by
  unfold gone
  rw [List.foldl_append]
  rfl
inductive OkTo : List Nat → Prop
  | nil : OkTo []
  | snoc {l : List Nat} {x : Nat} (h : OkTo l) (hx : (lx ls x).backFault (mx ss x) (gone ls ss g l).1 = 0) : OkTo (l ++ [x])
end
section
variable {ls : List Lay} {ss : List Mat} {g : Mat}
theorem OkTo.inv {m : List Nat} (h : OkTo ls ss g m) : ∀ l x, m = l ++ [x] → OkTo ls ss g l ∧ (lx ls x).backFault (mx ss x) (gone ls ss g l).1 = 0 := by
  intro l x e
  cases h with
  | nil => simp at e
  | snoc h hx =>
    obtain ⟨e1, e2⟩ := List.append_inj' e rfl
    simp at e2
    subst e1 e2
    exact ⟨h, hx⟩
/-- the first k numbers below n, from the last one on -/
def descs (n k : Nat) : List Nat := (List.range k).map fun j => n - 1 - j
theorem descs_length (n k : Nat) : (descs n k).length = k := by simp [descs]
theorem descs_succ (n k : Nat) : descs n (k + 1) = descs n k ++ [n - 1 - k] := by simp [descs, List.range_succ]
theorem gone_descs (n : Nat) : ∀ t, t ≤ n → (gone ls ss g (descs n t)).1 = bM ls ss g n t ∧ ∀ j, n - t ≤ j → j < n → (gone ls ss g (descs n t)).2 j = some (bD ls ss g n (n - 1 - j))
  | 0, _ => ⟨rfl, fun j h1 h2 => by omega⟩
  | t + 1, ht => by
    obtain ⟨h1, h2⟩ := gone_descs n t (by omega)
    rw [descs_succ, gone_snoc, h1]
    refine ⟨rfl, fun j h3 h4 => ?_⟩
    dsimp only
    by_cases hj : j = n - 1 - t
    · rw [if_pos hj]
      have e : n - 1 - j = t := by omega
      rw [e]
      rfl
    · rw [if_neg hj]
      exact h2 j (by omega) h4
theorem bF_descs (n : Nat) : ∀ t, t ≤ n → OkTo ls ss g (descs n t) → bF ls ss g n t = 0
  | 0, _, _ => rfl
  | t + 1, ht, h => by
    rw [descs_succ] at h
    obtain ⟨h1, h2⟩ := h.inv _ _ rfl
    have h3 := bF_descs n t (by omega) h1
    rw [bF_next h3]
    rw [(gone_descs n t (by omega)).1] at h2
    exact h2
end
end Gal
end
section
set_option linter.unusedVariables false
set_option linter.unusedSimpArgs false
namespace Gal
theorem nought_mul_left (a : Int) : mul 0 a = 0 := by rw [swap_mul, nought_mul]
theorem sub_nought {a : Int} (h : clamp a = a) : sub a 0 = a := by
  unfold sub
  rw [h, clamp_zero, Int.sub_zero, h]
theorem fault_ends {m : Mat} (h : m.fault = 0) : inEnds m.cells := by
  obtain ⟨R, C, _, _, _, _, _, he⟩ := matFault_ok h
  exact he
def zeroMat (m : Mat) : Mat := ⟨m.rows, m.cols, zeros m.cells.length⟩
def zeroGrd (l : Lay) : Grd := ⟨zeroMat l.W, zeroMat l.B⟩
def zeroNet (ls : List Lay) : List Grd := ls.map zeroGrd
theorem zeroNet_length (ls : List Lay) : (zeroNet ls).length = ls.length := by simp [zeroNet]
theorem zeroNet_gx (ls : List Lay) (k : Nat) : gx (zeroNet ls) k = zeroGrd (lx ls k) := by
  unfold gx lx zeroNet
  rw [List.getElem?_map]
  cases ls[k]? with
  | some l => rfl
  | none => rfl
theorem zeroMat_fault {m : Mat} (h : m.fault = 0) : (zeroMat m).fault = 0 := by
  obtain ⟨R, C, hr, hc, hR, hC, hl, he⟩ := matFault_ok h
  show matFault m.rows m.cols (zeros m.cells.length) = 0
  rw [hr, hc]
  exact matFault_zero hR hC (by rw [zeros_length]; exact hl) (zeros_inEnds _)
theorem fits_mk {l : Lay} {v d : Grd} (h0 : l.fault = 0) (h1 : v.W.fault = 0) (h2 : v.B.fault = 0) (h3 : d.W.fault = 0) (h4 : d.B.fault = 0)
    (h5 : likeShape v.W l.W) (h6 : likeShape v.B l.B) (h7 : likeShape d.W l.W) (h8 : likeShape d.B l.B) : fitsFault l v d = 0 := by
  unfold fitsFault
  rw [if_neg (by simp [h0]), if_neg (by simp [h1]), if_neg (by simp [h2]), if_neg (by simp [h3]), if_neg (by simp [h4]), if_pos ⟨h5, h6, h7, h8⟩]
theorem fits_rest_v {l : Lay} {v d : Grd} (h : fitsFault l v d = 0) : fitsFault l (zeroGrd l) d = 0 := by
  obtain ⟨h0, h1, h2, h3, h4, h5, h6, h7, h8⟩ := fitsFault_ok h
  obtain ⟨_, _, hW, hB, _⟩ := Lay.fault_ok h0
  exact fits_mk h0 (zeroMat_fault hW) (zeroMat_fault hB) h3 h4 ⟨rfl, rfl⟩ ⟨rfl, rfl⟩ h7 h8
theorem fits_rest {l : Lay} {v d : Grd} (h : fitsFault l v d = 0) : fitsFault l (zeroGrd l) (zeroGrd l) = 0 := by
  obtain ⟨h0, h1, h2, h3, h4, h5, h6, h7, h8⟩ := fitsFault_ok h
  obtain ⟨_, _, hW, hB, _⟩ := Lay.fault_ok h0
  exact fits_mk h0 (zeroMat_fault hW) (zeroMat_fault hB) (zeroMat_fault hW) (zeroMat_fault hB) ⟨rfl, rfl⟩ ⟨rfl, rfl⟩ ⟨rfl, rfl⟩ ⟨rfl, rfl⟩
theorem stepFaultTo_all {ls : List Lay} {vs ds : List Grd} : ∀ {n : Nat}, stepFaultTo ls vs ds n = 0 → ∀ k, k < n → fitsFault (lx ls k) (gx vs k) (gx ds k) = 0
  | 0, _, k, hk => absurd hk (Nat.not_lt_zero _)
  | n + 1, h, k, hk => by
    have h' : stepFaultTo ls vs ds n = 0 := by
      by_cases q : stepFaultTo ls vs ds n = 0
      · exact q
      · exact absurd ((stepFaultTo_stop (Nat.le_succ n) q).symm.trans h) q
    rcases Nat.lt_or_ge k n with g | g
    · exact stepFaultTo_all h' k g
    · obtain rfl : k = n := by omega
      rw [stepFaultTo_succ h'] at h
      exact h
theorem stepFaultTo_none {ls : List Lay} {vs ds : List Grd} : ∀ {n : Nat}, (∀ k, k < n → fitsFault (lx ls k) (gx vs k) (gx ds k) = 0) → stepFaultTo ls vs ds n = 0
  | 0, _ => rfl
  | n + 1, h => by
    rw [stepFaultTo_succ (stepFaultTo_none fun k hk => h k (by omega))]
    exact h n (Nat.lt_succ_self n)
theorem stepFault_ok {ls : List Lay} {vs ds : List Grd} {ln kp : Int} (h : stepFault ls vs ds ln kp = 0) :
    (0 ≤ ln ∧ ln ≤ 256 ∧ 0 ≤ kp ∧ kp ≤ 256) ∧ ls.length ≤ 12 ∧ vs.length = ls.length ∧ ds.length = ls.length ∧ ∀ k, k < ls.length → fitsFault (lx ls k) (gx vs k) (gx ds k) = 0 := by
  unfold stepFault at h
  by_cases h1 : ln < 0 ∨ 256 < ln ∨ kp < 0 ∨ 256 < kp
  · rw [if_pos h1] at h; omega
  · rw [if_neg h1] at h
    by_cases h2 : 12 < ls.length
    · rw [if_pos h2] at h; omega
    · rw [if_neg h2] at h
      by_cases h3 : vs.length ≠ ls.length ∨ ds.length ≠ ls.length
      · rw [if_pos h3] at h; omega
      · rw [if_neg h3] at h
        exact ⟨by omega, by omega, by omega, by omega, stepFaultTo_all h⟩
theorem stepFault_none {ls : List Lay} {vs ds : List Grd} {ln kp : Int} (h1 : 0 ≤ ln ∧ ln ≤ 256 ∧ 0 ≤ kp ∧ kp ≤ 256) (h2 : ls.length ≤ 12) (h3 : vs.length = ls.length) (h4 : ds.length = ls.length)
    (h : ∀ k, k < ls.length → fitsFault (lx ls k) (gx vs k) (gx ds k) = 0) : stepFault ls vs ds ln kp = 0 := by
  unfold stepFault
  rw [if_neg (by omega), if_neg (by omega), if_neg (by omega)]
  exact stepFaultTo_none h
theorem stepTo_still {w v d : Mat} {kp : Int} (h : w.fault = 0) : stepTo w v d 0 kp = w := by
  have he := fault_ends h
  have : upto (fun k => sub (ix w.cells k) (mul (add (mul (ix v.cells k) kp) (ix d.cells k)) 0)) w.cells.length = w.cells :=
    (upto_congr fun k hk => by rw [nought_mul, sub_nought (he k hk)]).trans upto_self
  unfold stepTo
  rw [this]
theorem stepTo_first {w v v' d : Mat} {ln : Int} : stepTo w v d ln 0 = stepTo w v' d ln 0 := by
  unfold stepTo
  simp only [nought_mul]
theorem stepSpeed_first {w v v' d : Mat} : stepSpeed w v d 0 = stepSpeed w v' d 0 := by
  unfold stepSpeed
  simp only [nought_mul]
theorem add_noughts : add 0 0 = 0 := by unfold add; rw [clamp_zero]; exact clamp_zero
theorem stepTo_rest {w u t : Mat} {ln kp : Int} (h : w.fault = 0) : stepTo w (zeroMat u) (zeroMat t) ln kp = w := by
  have he := fault_ends h
  have : upto (fun k => sub (ix w.cells k) (mul (add (mul (ix (zeroMat u).cells k) kp) (ix (zeroMat t).cells k)) ln)) w.cells.length = w.cells :=
    (upto_congr fun k hk => by
      show sub (ix w.cells k) (mul (add (mul (ix (zeros _) k) kp) (ix (zeros _) k)) ln) = ix w.cells k
      rw [zeros_ix, zeros_ix, nought_mul_left, add_noughts, nought_mul_left, sub_nought (he k hk)]).trans upto_self
  unfold stepTo
  rw [this]
theorem stepSpeed_rest {w u t : Mat} {kp : Int} : stepSpeed w (zeroMat u) (zeroMat t) kp = zeroMat w := by
  have : upto (fun k => add (mul (ix (zeroMat u).cells k) kp) (ix (zeroMat t).cells k)) w.cells.length = zeros w.cells.length :=
    (upto_congr (g := ix (zeros w.cells.length)) fun k hk => by
      show add (mul (ix (zeros _) k) kp) (ix (zeros _) k) = _
      rw [zeros_ix, zeros_ix, zeros_ix, nought_mul_left, add_noughts]).trans (by have := upto_self (xs := zeros w.cells.length); rwa [zeros_length] at this)
  unfold stepSpeed zeroMat
  rw [← this]
  rfl
theorem lays_self {ls : List Lay} : (List.range ls.length).map (lx ls) = ls := by
  apply List.ext_getElem?
  intro i
  rw [List.getElem?_map]
  by_cases h : i < ls.length
  · rw [List.getElem?_range h, lx_get h]; rfl
  · rw [List.getElem?_eq_none (by simp; omega), List.getElem?_eq_none (by omega)]; rfl
theorem range_congr {α : Type} {f g : Nat → α} {n : Nat} (h : ∀ k, k < n → f k = g k) : (List.range n).map f = (List.range n).map g :=
  List.map_congr_left fun k hk => h k (List.mem_range.1 hk)
section
variable {ls : List Lay} {vs ds : List Grd} {ln kp : Int} (h : stepFault ls vs ds ln kp = 0)
include h
theorem stays_learn : stepFault ls vs ds 0 kp = 0 ∧ stepLays ls vs ds 0 kp ls.length = ls := by
  obtain ⟨h1, h2, h3, h4, h5⟩ := stepFault_ok h
  refine ⟨stepFault_none (by omega) h2 h3 h4 h5, (range_congr fun k hk => ?_).trans lays_self⟩
  obtain ⟨g0, _⟩ := fitsFault_ok (h5 k hk)
  obtain ⟨_, _, hW, hB, _⟩ := Lay.fault_ok g0
  unfold stepLay
  rw [stepTo_still hW, stepTo_still hB]
theorem stays_first : stepFault ls vs ds ln 0 = 0 ∧ stepFault ls (zeroNet ls) ds ln 0 = 0 ∧ stepLays ls (zeroNet ls) ds ln 0 ls.length = stepLays ls vs ds ln 0 ls.length ∧ stepGrds ls (zeroNet ls) ds 0 ls.length = stepGrds ls vs ds 0 ls.length := by
  obtain ⟨h1, h2, h3, h4, h5⟩ := stepFault_ok h
  refine ⟨stepFault_none (by omega) h2 h3 h4 h5, stepFault_none (by omega) h2 (zeroNet_length _) h4 fun k hk => by rw [zeroNet_gx]; exact fits_rest_v (h5 k hk), range_congr fun k hk => ?_, range_congr fun k hk => ?_⟩
  · unfold stepLay
    rw [stepTo_first (v := (gx (zeroNet ls) k).W) (v' := (gx vs k).W), stepTo_first (v := (gx (zeroNet ls) k).B) (v' := (gx vs k).B)]
  · unfold stepGrd
    rw [stepSpeed_first (v := (gx (zeroNet ls) k).W) (v' := (gx vs k).W), stepSpeed_first (v := (gx (zeroNet ls) k).B) (v' := (gx vs k).B)]
theorem stays_rest : stepFault ls (zeroNet ls) (zeroNet ls) ln kp = 0 ∧ stepLays ls (zeroNet ls) (zeroNet ls) ln kp ls.length = ls ∧ stepGrds ls (zeroNet ls) (zeroNet ls) kp ls.length = zeroNet ls := by
  obtain ⟨h1, h2, h3, h4, h5⟩ := stepFault_ok h
  refine ⟨stepFault_none (by omega) h2 (zeroNet_length _) (zeroNet_length _) fun k hk => by rw [zeroNet_gx]; exact fits_rest (h5 k hk), (range_congr fun k hk => ?_).trans lays_self, ?_⟩
  · obtain ⟨g0, _⟩ := fitsFault_ok (h5 k hk)
    obtain ⟨_, _, hW, hB, _⟩ := Lay.fault_ok g0
    rw [zeroNet_gx]
    unfold stepLay zeroGrd
    rw [stepTo_rest hW, stepTo_rest hB]
  · have e : zeroNet ls = (List.range ls.length).map fun k => zeroGrd (lx ls k) := by
      unfold zeroNet
      conv => lhs; rw [← lays_self (ls := ls)]
      rw [List.map_map]
      rfl
    rw [e]
    refine range_congr fun k hk => ?_
    rw [← e, zeroNet_gx]
    unfold stepGrd zeroGrd
    rw [stepSpeed_rest, stepSpeed_rest]
end
def factG : Grd := ⟨⟨1, 1, [512]⟩, Mat.none⟩
theorem step_fact : stepFault [oneL] (zeroNet [oneL]) [factG] 128 0 = 0 := by decide +kernel
theorem step_fact_is : stepLays [oneL] (zeroNet [oneL]) [factG] 128 0 1 = [⟨3, ⟨1, 1, [0]⟩, Mat.none⟩] := rfl
end Gal
end
