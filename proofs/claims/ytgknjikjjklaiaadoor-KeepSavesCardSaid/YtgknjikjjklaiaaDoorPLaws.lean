/- Plain: what is true of layers, whatever they hold. No program in sight. -/
import Derived.Test.YtgknjikjjklaiaaDoorBaseP
set_option linter.unusedVariables false
set_option linter.unusedSimpArgs false
set_option linter.unusedSectionVars false
namespace Gal
theorem upto_split (f : Nat → Int) (a : Nat) : ∀ b, upto f (a + b) = upto f a ++ upto (fun k => f (a + k)) b
  | 0 => by simp [upto]
  | b + 1 => by rw [← Nat.add_assoc, upto_succ, upto_succ, upto_split f a b, List.append_assoc]
theorem upto_parts (f : Nat → Int) {a n : Nat} (h : a ≤ n) : upto f n = upto f a ++ upto (fun k => f (a + k)) (n - a) := by
  rw [← upto_split]
  congr 1
  omega
theorem inEnds_upto {f : Nat → Int} {n : Nat} (h : ∀ k, k < n → clamp (f k) = f k) : inEnds (upto f n) := by
  intro j hj
  rw [upto_length] at hj
  rw [upto_ix hj]
  exact h j hj
theorem ix_left {xs ys : List Int} {k : Nat} (h : k < xs.length) : ix (xs ++ ys) k = ix xs k := by unfold ix; rw [List.getElem?_append_left h]
theorem ix_right {xs ys : List Int} {k : Nat} : ix (xs ++ ys) (xs.length + k) = ix ys k := by unfold ix; rw [List.getElem?_append_right (by omega)]; congr 2; omega
theorem more_append {xs ys row : List Int} {C a : Nat} (h : xs.length = a * C) : moreCells (xs ++ ys) row C = moreCells xs row C ++ moreCells ys row C := by
  unfold moreCells
  rw [List.length_append, upto_split]
  congr 1
  · exact upto_congr fun k hk => by rw [ix_left hk]
  · exact upto_congr fun k hk => by
      rw [ix_right, h]
      congr 2
      rw [Nat.add_comm, Nat.mul_comm, Nat.add_mul_mod_self_left]
theorem mat_form {m : Mat} (h : m.fault = 0) : ∃ (R K : Nat) (xs : List Int), m = ⟨R, K, xs⟩ ∧ R ≤ 24 ∧ K ≤ 12 ∧ xs.length = R * K ∧ inEnds xs := by
  obtain ⟨R, K, eR, eK, hR, hK, hl, he⟩ := matFault_ok h
  obtain ⟨r, c, xs⟩ := m
  dsimp only at eR eK hl he
  subst eR eK
  exact ⟨R, K, xs, rfl, hR, hK, hl, he⟩
theorem go_rows' (l : Lay) (x : Mat) : (l.go x).rows = x.rows := by
  unfold Lay.go
  by_cases h1 : l.kind = 1
  · rw [if_pos h1]
  · rw [if_neg h1]
    by_cases h2 : l.kind = 2
    · rw [if_pos h2]
    · rw [if_neg h2]
      by_cases h3 : l.kind = 3
      · rw [if_pos h3]
      · rw [if_neg h3]
theorem go_cols (l : Lay) (x : Mat) : (l.go x).cols = l.wide x.cols := by
  unfold Lay.go Lay.wide
  by_cases h1 : l.kind = 1
  · rw [if_pos h1, if_pos h1]
  · rw [if_neg h1, if_neg h1]
    by_cases h2 : l.kind = 2
    · rw [if_pos h2]
    · rw [if_neg h2]
      by_cases h3 : l.kind = 3
      · rw [if_pos h3]
      · rw [if_neg h3]
theorem matMul_cells (R K C : Nat) (xs ys : List Int) : (matMul ⟨R, K, xs⟩ ⟨K, C, ys⟩).cells.length = R * C := by
  unfold matMul
  simp only [Int.toNat_natCast]
  exact grid_length _ _ _
theorem clamp_max {x : Int} (h : clamp x = x) : clamp (max x 0) = max x 0 := by
  have h1 := clamp_lo x
  have h2 := clamp_hi x
  rw [h] at h1 h2
  exact clamp_id (by omega) (by omega)
theorem clamp_zero : clamp 0 = 0 := clamp_id (by omega) (by omega)
/-- what comes of a layer is a matrix -/
theorem go_fault {l : Lay} {x : Mat} (hf : l.goFault x = 0) : (l.go x).fault = 0 := by
  obtain ⟨hl, hx, ht⟩ := Lay.goFault_ok hf
  obtain ⟨h1, h2, fw, fb, fit⟩ := Lay.fault_ok hl
  obtain ⟨R, K, xs, rfl, hR, hK, hlen, hin⟩ := mat_form hx
  unfold Lay.go
  by_cases k1 : l.kind = 1
  · rw [if_pos k1]
    obtain ⟨R', C, ws, hW, hR', hC, hlw, _⟩ := mat_form fw
    have e := ht.1 k1
    rw [hW] at e ⊢
    dsimp only at e
    obtain rfl : K = R' := by omega
    exact matFault_zero hR hC (by rw [moreCells_length, matMul_cells]) (inEnds_upto fun k _ => clamp_clamp _)
  · rw [if_neg k1]
    by_cases k2 : l.kind = 2
    · rw [if_pos k2]
      exact matFault_zero hR hK (by rw [upto_length]; exact hlen) (inEnds_upto fun k hk => clamp_max (hin k hk))
    · rw [if_neg k2]
      by_cases k3 : l.kind = 3
      · rw [if_pos k3]
        exact matFault_zero hR hK (by rw [upto_length]; exact hlen) (inEnds_upto fun k hk => clamp_clamp _)
      · rw [if_neg k3]
        exact matFault_zero hR hK (by rw [moreCells_length]; exact hlen) (inEnds_upto fun k hk => clamp_clamp _)
/-- what goes back is a matrix, as x -/
theorem back_fault {l : Lay} {x g : Mat} (hf : l.backFault x g = 0) : (l.back x g).fault = 0 ∧ (l.back x g).rows = x.rows ∧ (l.back x g).cols = x.cols := by
  obtain ⟨f1, f2, f3, f4, f5⟩ := Lay.backFault_ok hf
  obtain ⟨hl, hx, ht⟩ := Lay.goFault_ok f1
  obtain ⟨h1, h2, fw, fb, fit⟩ := Lay.fault_ok hl
  obtain ⟨R, K, xs, rfl, hR, hK, hlen, hin⟩ := mat_form hx
  obtain ⟨R', K', ys, rfl, hR', hK', hlen', hin'⟩ := mat_form f2
  dsimp only at f3 f4 f5 ht
  obtain rfl : R' = R := by omega
  unfold Lay.back
  by_cases k1 : l.kind = 1
  · rw [if_pos k1]
    obtain ⟨Q, C, ws, hW, hQ, hC, hlw, _⟩ := mat_form fw
    have e := ht.1 k1
    have e2 : (K' : Int) = l.W.cols := by rw [f4]; unfold Lay.wide; rw [if_pos k1]
    rw [hW] at e e2 ⊢
    dsimp only at e e2
    obtain rfl : K = Q := by omega
    obtain rfl : K' = C := by omega
    refine ⟨?_, rfl, rfl⟩
    unfold matTurn
    exact matMul_fault hR hK
  · rw [if_neg k1]
    have e2 : (K' : Int) = K := by rw [f4]; unfold Lay.wide; rw [if_neg k1]
    obtain rfl : K' = K := by omega
    by_cases k2 : l.kind = 2
    · rw [if_pos k2]
      refine ⟨matFault_zero hR hK (by rw [upto_length]; exact hlen) (inEnds_upto fun k hk => ?_), rfl, rfl⟩
      by_cases hp : 0 < ix xs k
      · dsimp only; rw [if_pos hp]; exact hin' k (by rw [hlen', ← hlen]; exact hk)
      · dsimp only; rw [if_neg hp]; exact clamp_zero
    · rw [if_neg k2]
      by_cases k3 : l.kind = 3
      · rw [if_pos k3]
        exact ⟨matFault_zero hR hK (by rw [upto_length]; exact hlen') (inEnds_upto fun k hk => clamp_clamp _), rfl, rfl⟩
      · rw [if_neg k3]
        exact ⟨matFault_zero hR hK (by rw [upto_length]; exact hlen') (inEnds_upto fun k hk => hin' k hk), rfl, rfl⟩
section
variable {l : Lay} {R K k : Nat} {xs : List Int} (hk : k ≤ R)
include hk
/-- rows do not mind one another, there -/
theorem go_parts (hf : l.goFault ⟨R, K, xs⟩ = 0) :
    l.goFault (topOf R K xs k) = 0 ∧ l.goFault (botOf R K xs k) = 0 ∧ stackFault [l.go (topOf R K xs k), l.go (botOf R K xs k)] = 0 ∧ matStack [l.go (topOf R K xs k), l.go (botOf R K xs k)] = l.go ⟨R, K, xs⟩ := by
  obtain ⟨hl, hx, ht⟩ := Lay.goFault_ok hf
  obtain ⟨h1, h2, fw, fb, fit⟩ := Lay.fault_ok hl
  obtain ⟨R', K', eR, eK, hR, hK, hlen, hin⟩ := matFault_ok hx
  dsimp only at eR eK hlen hin
  obtain rfl : R = R' := by omega
  obtain rfl : K = K' := by omega
  have f1 : l.goFault (topOf R K xs k) = 0 := by unfold Lay.goFault; rw [if_neg (by simp [hl]), if_neg (by simp [top_fault hk hlen hR hK hin]), if_pos (show l.takes (topOf R K xs k).cols from ht)]
  have f2 : l.goFault (botOf R K xs k) = 0 := by unfold Lay.goFault; rw [if_neg (by simp [hl]), if_neg (by simp [bot_fault hk hlen hR hK hin]), if_pos (show l.takes (botOf R K xs k).cols from ht)]
  have hkK := kK (K := K) hk hlen
  refine ⟨f1, f2, stack_two hk hlen (go_fault f1) (go_fault f2) (by rw [go_cols, go_cols]; rfl) (by rw [go_rows', go_rows']; show (k : Int) + ((R - k : Nat) : Int) ≤ 24; omega), ?_⟩
  rw [stack_is hk hlen, go_rows', go_rows', go_cols]
  have hcell : (l.go (topOf R K xs k)).cells ++ (l.go (botOf R K xs k)).cells = (l.go ⟨R, K, xs⟩).cells := by
    have e1 : (xs.take (k * K)).length = k * K := by rw [List.length_take]; omega
    have e2 : (xs.drop (k * K)).length = R * K - k * K := by rw [List.length_drop]; omega
    have e3 : xs.take (k * K) ++ xs.drop (k * K) = xs := List.take_append_drop _ _
    unfold Lay.go
    by_cases k1 : l.kind = 1
    · simp only [if_pos k1]
      obtain ⟨Q, C, ws, hW, hQ, hC, hlw, _⟩ := mat_form fw
      have e := ht.1 k1
      rw [hW] at e ⊢
      dsimp only at e
      obtain rfl : K = Q := by omega
      have hp := congrArg Mat.cells (mul_parts (C := C) (ys := ws) hk hlen)
      rw [stack_is hk hlen] at hp
      dsimp only at hp ⊢
      rw [← hp, more_append (a := k)]
      exact matMul_cells k K C _ _
    · simp only [if_neg k1]
      by_cases k2 : l.kind = 2
      · simp only [if_pos k2]
        show upto _ (xs.take (k * K)).length ++ upto _ (xs.drop (k * K)).length = upto _ xs.length
        rw [e1, e2, hlen, upto_parts _ hkK]
        congr 1
        · exact upto_congr fun j hj => by show max (ix (xs.take (k * K)) j) 0 = _; rw [ix_take hj]
        · exact upto_congr fun j hj => by show max (ix (xs.drop (k * K)) j) 0 = _; rw [ix_drop]
      · simp only [if_neg k2]
        by_cases k3 : l.kind = 3
        · simp only [if_pos k3]
          show upto _ (xs.take (k * K)).length ++ upto _ (xs.drop (k * K)).length = upto _ xs.length
          rw [e1, e2, hlen, upto_parts _ hkK]
          congr 1
          · exact upto_congr fun j hj => by show mul (ix (xs.take (k * K)) j) _ = _; rw [ix_take hj]
          · exact upto_congr fun j hj => by show mul (ix (xs.drop (k * K)) j) _ = _; rw [ix_drop]
        · simp only [if_neg k3]
          show moreCells (xs.take (k * K)) _ (K : Int).toNat ++ moreCells (xs.drop (k * K)) _ (K : Int).toNat = moreCells xs _ (K : Int).toNat
          rw [Int.toNat_natCast, ← more_append (a := k) e1, e3]
  rw [hcell]
  have e4 : (topOf R K xs k).rows + (botOf R K xs k).rows = (l.go ⟨R, K, xs⟩).rows := by rw [go_rows']; show (k : Int) + ((R - k : Nat) : Int) = R; omega
  have e5 : l.wide (topOf R K xs k).cols = (l.go ⟨R, K, xs⟩).cols := by rw [go_cols]; rfl
  rw [e4, e5]
/-- likewise what goes back -/
theorem back_parts {C : Nat} {ys : List Int} (hf : l.backFault ⟨R, K, xs⟩ ⟨R, C, ys⟩ = 0) :
    l.backFault (topOf R K xs k) (topOf R C ys k) = 0 ∧ l.backFault (botOf R K xs k) (botOf R C ys k) = 0 ∧
    stackFault [l.back (topOf R K xs k) (topOf R C ys k), l.back (botOf R K xs k) (botOf R C ys k)] = 0 ∧ matStack [l.back (topOf R K xs k) (topOf R C ys k), l.back (botOf R K xs k) (botOf R C ys k)] = l.back ⟨R, K, xs⟩ ⟨R, C, ys⟩ := by
  have hf0 := hf
  obtain ⟨g1, g2, g3, g4, g5⟩ := Lay.backFault_ok hf
  obtain ⟨hl, hx, ht⟩ := Lay.goFault_ok g1
  obtain ⟨h1, h2, fw, fb, fit⟩ := Lay.fault_ok hl
  obtain ⟨R', K', eR, eK, hR, hK, hlen, hin⟩ := matFault_ok hx
  dsimp only at eR eK hlen hin
  obtain rfl : R = R' := by omega
  obtain rfl : K = K' := by omega
  obtain ⟨R'', C', eR', eC, _, hC, hlen', hin'⟩ := matFault_ok g2
  dsimp only at eR' eC hlen' hin'
  obtain rfl : R = R'' := by omega
  obtain rfl : C = C' := by omega
  obtain ⟨f1, f2, _, _⟩ := go_parts hk g1
  have b1 : l.backFault (topOf R K xs k) (topOf R C ys k) = 0 := by
    unfold Lay.backFault
    rw [if_neg (by simp [f1]), if_neg (by simp [top_fault hk hlen' hR hC hin']), if_neg, if_neg]
    · rintro ⟨q, q'⟩; have := g5 q; simp only [topOf] at q' this; omega
    · simp only [topOf] at g4 ⊢
      intro q
      rcases q with q | q
      · exact q rfl
      · exact q g4
  have b2 : l.backFault (botOf R K xs k) (botOf R C ys k) = 0 := by
    unfold Lay.backFault
    rw [if_neg (by simp [f2]), if_neg (by simp [bot_fault hk hlen' hR hC hin']), if_neg, if_neg]
    · rintro ⟨q, q'⟩; have := g5 q; simp only [botOf] at q' this; omega
    · simp only [botOf] at g4 ⊢
      intro q
      rcases q with q | q
      · exact q rfl
      · exact q g4
  obtain ⟨c1, c2, c3⟩ := back_fault b1
  obtain ⟨d1, d2, d3⟩ := back_fault b2
  obtain ⟨_, w2, w3⟩ := back_fault hf
  refine ⟨b1, b2, stack_two hk hlen c1 d1 (by rw [c3, d3]; rfl) (by rw [c2, d2]; show (k : Int) + ((R - k : Nat) : Int) ≤ 24; omega), ?_⟩
  rw [stack_is hk hlen, c2, d2, c3]
  have hkK := kK (K := K) hk hlen
  have hkC := kK (K := C) hk hlen'
  have hcell : (l.back (topOf R K xs k) (topOf R C ys k)).cells ++ (l.back (botOf R K xs k) (botOf R C ys k)).cells = (l.back ⟨R, K, xs⟩ ⟨R, C, ys⟩).cells := by
    have e1 : (xs.take (k * K)).length = k * K := by rw [List.length_take]; omega
    have e2 : (xs.drop (k * K)).length = R * K - k * K := by rw [List.length_drop]; omega
    have e1' : (ys.take (k * C)).length = k * C := by rw [List.length_take]; omega
    have e2' : (ys.drop (k * C)).length = R * C - k * C := by rw [List.length_drop]; omega
    have e3 : xs.take (k * K) ++ xs.drop (k * K) = xs := List.take_append_drop _ _
    unfold Lay.back
    by_cases k1 : l.kind = 1
    · simp only [if_pos k1]
      obtain ⟨Q, D, ws, hW, hQ, hD, hlw, _⟩ := mat_form fw
      have e := ht.1 k1
      have e5 : (C : Int) = l.W.cols := by dsimp only at g4; rw [g4]; unfold Lay.wide; rw [if_pos k1]
      rw [hW] at e e5 ⊢
      dsimp only at e e5
      obtain rfl : K = Q := by omega
      obtain rfl : C = D := by omega
      have hp := congrArg Mat.cells (mul_parts (C := K) (ys := (matTurn ⟨K, C, ws⟩).cells) hk hlen')
      rw [stack_is hk hlen'] at hp
      exact hp
    · simp only [if_neg k1]
      have e5 : C = K := by
        have : (C : Int) = K := by dsimp only at g4; rw [g4]; unfold Lay.wide; rw [if_neg k1]
        omega
      subst e5
      by_cases k2 : l.kind = 2
      · simp only [if_pos k2]
        show upto _ (xs.take (k * C)).length ++ upto _ (xs.drop (k * C)).length = upto _ xs.length
        rw [e1, e2, hlen, upto_parts _ hkK]
        congr 1
        · exact upto_congr fun j hj => by show (if 0 < ix (xs.take (k * C)) j then ix (ys.take (k * C)) j else 0) = _; rw [ix_take hj, ix_take hj]
        · exact upto_congr fun j hj => by show (if 0 < ix (xs.drop (k * C)) j then ix (ys.drop (k * C)) j else 0) = _; rw [ix_drop, ix_drop]
      · simp only [if_neg k2]
        by_cases k3 : l.kind = 3
        · simp only [if_pos k3]
          show upto _ (ys.take (k * C)).length ++ upto _ (ys.drop (k * C)).length = upto _ ys.length
          rw [e1', e2', hlen', upto_parts _ hkC]
          congr 1
          · exact upto_congr fun j hj => by show mul (ix (ys.take (k * C)) j) _ = _; rw [ix_take hj]
          · exact upto_congr fun j hj => by show mul (ix (ys.drop (k * C)) j) _ = _; rw [ix_drop]
        · simp only [if_neg k3]
          show upto (ix (ys.take (k * C))) (ys.take (k * C)).length ++ upto (ix (ys.drop (k * C))) (ys.drop (k * C)).length = upto (ix ys) ys.length
          rw [upto_self, upto_self, upto_self, List.take_append_drop]
  rw [hcell]
  have e4 : (topOf R K xs k).rows + (botOf R K xs k).rows = (l.back ⟨R, K, xs⟩ ⟨R, C, ys⟩).rows := by rw [w2]; show (k : Int) + ((R - k : Nat) : Int) = R; omega
  have e5 : (topOf R K xs k).cols = (l.back ⟨R, K, xs⟩ ⟨R, C, ys⟩).cols := by rw [w3]; rfl
  rw [e4, e5]
end
/-- the layer that lets by what is above nought -/
def reluL : Lay := ⟨2, Mat.none, Mat.none⟩
theorem reluL_fault : reluL.fault = 0 := by decide
theorem reluL_go (x : Mat) : reluL.goFault x = x.fault := by
  unfold Lay.goFault
  rw [if_neg (by simp [reluL_fault])]
  by_cases h : x.fault = 0
  · rw [if_neg (by simp [h]), if_pos (by constructor <;> intro q <;> exact absurd q (by decide)), h]
  · rw [if_pos h]
theorem reluL_is (x : Mat) : reluL.go x = ⟨x.rows, x.cols, upto (fun k => max (ix x.cells k) 0) x.cells.length⟩ := rfl
theorem reluL_twice (x : Mat) : reluL.go (reluL.go x) = reluL.go x := by
  rw [reluL_is (reluL.go x)]
  rw [reluL_is x]
  simp only [upto_length]
  congr 1
  exact upto_congr fun k hk => by rw [upto_ix hk]; omega
/-- layers that do nothing -/
def unitL (K : Nat) : Lay := ⟨1, ⟨K, K, unitTo K K⟩, ⟨1, K, zeros K⟩⟩
def oneL : Lay := ⟨3, ⟨1, 1, [256]⟩, Mat.none⟩
def noughtL (K : Nat) : Lay := ⟨4, Mat.none, ⟨1, K, zeros K⟩⟩
theorem zeros_inEnds (n : Nat) : inEnds (zeros n) := fun j _ => by rw [zeros_ix]; exact clamp_zero
theorem zeros_ok {K : Nat} (hK : K ≤ 12) : (⟨1, K, zeros K⟩ : Mat).fault = 0 := matFault_zero (R := 1) (by omega) hK (by rw [zeros_length]; omega) (zeros_inEnds K)
theorem more_zeros {xs : List Int} {K : Nat} (h : inEnds xs) : moreCells xs (zeros K) K = xs := by
  unfold moreCells
  refine Eq.trans (upto_congr fun k hk => ?_) upto_self
  rw [zeros_ix, add_zero]
  exact h k hk
theorem unit_turn (K : Nat) : matTurn ⟨K, K, unitTo K K⟩ = ⟨K, K, unitTo K K⟩ := by
  unfold matTurn
  simp only [Int.toNat_natCast]
  congr 1
  unfold unitTo
  exact grid_congr fun i j hi hj => by
    rw [grid_ix _ K K j i hj hi]
    by_cases h : i = j
    · subst h; rfl
    · rw [if_neg (by omega), if_neg (by omega)]
section
variable {R K : Nat} {xs : List Int} (hK1 : 1 ≤ K) (hf : (⟨R, K, xs⟩ : Mat).fault = 0)
include hK1 hf
theorem unitL_ok : (unitL K).goFault ⟨R, K, xs⟩ = 0 ∧ (unitL K).go ⟨R, K, xs⟩ = ⟨R, K, xs⟩ := by
  obtain ⟨R', K', eR, eK, hR, hK, hlen, hin⟩ := matFault_ok hf
  dsimp only at eR eK hlen hin
  obtain rfl : R = R' := by omega
  obtain rfl : K = K' := by omega
  have h1 : (unitL K).fault = 0 := by
    unfold Lay.fault
    rw [if_neg (by simp [unitL]), if_neg (by simpa [unitL, Mat.fault] using unit_ok hK), if_neg (by simpa [unitL] using zeros_ok hK), if_pos]
    exact Or.inl ⟨rfl, by show (0 : Int) < K; omega, by show (0 : Int) < K; omega, by show (K : Int) ≤ 12; omega, rfl, rfl⟩
  refine ⟨?_, ?_⟩
  · unfold Lay.goFault
    rw [if_neg (by simp [h1]), if_neg (by simp [hf]), if_pos]
    exact ⟨fun _ => rfl, fun h => absurd (show (1 : Int) = 4 from h) (by decide)⟩
  · show (⟨_, _, moreCells (matMul ⟨R, K, xs⟩ ⟨K, K, unitTo K K⟩).cells (zeros K) (K : Int).toNat⟩ : Mat) = _
    rw [unit_law hlen hin, Int.toNat_natCast, more_zeros hin]
    rfl
theorem oneL_ok : oneL.goFault ⟨R, K, xs⟩ = 0 ∧ oneL.go ⟨R, K, xs⟩ = ⟨R, K, xs⟩ := by
  obtain ⟨R', K', eR, eK, hR, hK, hlen, hin⟩ := matFault_ok hf
  dsimp only at eR eK hlen hin
  have h1 : oneL.fault = 0 := by decide
  refine ⟨?_, ?_⟩
  · unfold Lay.goFault
    rw [if_neg (by simp [h1]), if_neg (by simp [hf]), if_pos]
    exact ⟨fun h => absurd h (by decide), fun h => absurd h (by decide)⟩
  · show (⟨R, K, upto (fun k => mul (ix xs k) 256) xs.length⟩ : Mat) = _
    congr 1
    exact Eq.trans (upto_congr fun k hk => by rw [mul_one]; exact hin k hk) upto_self
theorem noughtL_ok : (noughtL K).goFault ⟨R, K, xs⟩ = 0 ∧ (noughtL K).go ⟨R, K, xs⟩ = ⟨R, K, xs⟩ := by
  obtain ⟨R', K', eR, eK, hR, hK, hlen, hin⟩ := matFault_ok hf
  dsimp only at eR eK hlen hin
  obtain rfl : R = R' := by omega
  obtain rfl : K = K' := by omega
  have h1 : (noughtL K).fault = 0 := by
    unfold Lay.fault
    rw [if_neg (by simp [noughtL]), if_neg (by simp [noughtL]; decide), if_neg (by simpa [noughtL] using zeros_ok hK), if_pos]
    exact Or.inr (Or.inr (Or.inr ⟨rfl, ⟨rfl, rfl⟩, rfl, by show (0 : Int) < K; omega⟩))
  refine ⟨?_, ?_⟩
  · unfold Lay.goFault
    rw [if_neg (by simp [h1]), if_neg (by simp [hf]), if_pos]
    exact ⟨fun h => absurd (show (4 : Int) = 1 from h) (by decide), fun _ => rfl⟩
  · show (⟨R, K, moreCells xs (zeros K) (K : Int).toNat⟩ : Mat) = _
    rw [Int.toNat_natCast, more_zeros hin]
end
theorem unitL_back {K : Nat} {x g : Mat} (hf : (unitL K).backFault x g = 0) : (unitL K).back x g = g := by
  obtain ⟨g1, g2, g3, g4, g5⟩ := Lay.backFault_ok hf
  obtain ⟨R, C, ys, rfl, hR, hC, hlen, hin⟩ := mat_form g2
  dsimp only at g4
  obtain rfl : C = K := by
    have : (C : Int) = K := g4
    omega
  show matMul ⟨R, C, ys⟩ (matTurn ⟨C, C, unitTo C C⟩) = _
  rw [unit_turn, unit_law hlen hin]
theorem oneL_back {x g : Mat} (hf : oneL.backFault x g = 0) : oneL.back x g = g := by
  obtain ⟨g1, g2, g3, g4, g5⟩ := Lay.backFault_ok hf
  obtain ⟨R, C, ys, rfl, hR, hC, hlen, hin⟩ := mat_form g2
  show (⟨R, C, upto (fun k => mul (ix ys k) 256) ys.length⟩ : Mat) = _
  congr 1
  exact Eq.trans (upto_congr fun k hk => by rw [mul_one]; exact hin k hk) upto_self
theorem noughtL_back {K : Nat} {x g : Mat} : (noughtL K).back x g = g := by
  show (⟨g.rows, g.cols, upto (ix g.cells) g.cells.length⟩ : Mat) = g
  rw [upto_self]
end Gal
