/- Some small texts, joined: PBatch, PLaws, PNet, PStep, PBack, PJoins, PGath, PStay, PTrain1, PBat, PTrain2. -/
import Derived.Test.YtgknjikjjklaiaaDoorBaseP
section
set_option linter.unusedVariables false
set_option linter.unusedSimpArgs false
namespace Gal
def ints (l : List Nat) : List Int := l.map fun (n : Nat) => (n : Int)
theorem ints_snoc (l : List Nat) (n : Nat) : ints (l ++ [n]) = ints l ++ [(n : Int)] := by simp [ints]
theorem ints_length (l : List Nat) : (ints l).length = l.length := by simp [ints]
/-- how many rows each of so many parts has -/
def sizesOf : Nat → Nat → List Nat
  | _, 0 => []
  | rows, left + 1 => (rows + left) / (left + 1) :: sizesOf (rows - (rows + left) / (left + 1)) left
theorem sizesOf_succ (rows left : Nat) : sizesOf rows (left + 1) = (rows + left) / (left + 1) :: sizesOf (rows - (rows + left) / (left + 1)) left := rfl
def sizesFault (rows parts : Int) : Int := if rows < 1 ∨ 24 < rows ∨ parts < 1 ∨ 12 < parts then 1 else if rows < parts then 2 else 0
theorem sizesOf_length (left : Nat) : ∀ rows, (sizesOf rows left).length = left := by
  induction left with
  | zero => intro rows; rfl
  | succ left ih => intro rows; simp [sizesOf, ih]
theorem share_le (rows left : Nat) : (rows + left) / (left + 1) ≤ rows := by
  rw [Nat.div_le_iff_le_mul_add_pred (by omega)]
  have : rows ≤ (left + 1) * rows := Nat.le_mul_of_pos_left rows (by omega)
  omega
theorem share_pos {rows left : Nat} (h : left + 1 ≤ rows) : 1 ≤ (rows + left) / (left + 1) := by
  rw [Nat.le_div_iff_mul_le (by omega)]; omega
theorem share_rest {rows left : Nat} (h : left + 1 ≤ rows) : left ≤ rows - (rows + left) / (left + 1) := by
  have h1 : (rows + left) / (left + 1) ≤ rows - left := by
    rw [Nat.div_le_iff_le_mul_add_pred (by omega)]
    have h2 : left * 1 ≤ left * (rows - left) := Nat.mul_le_mul_left _ (by omega)
    rw [Nat.add_mul]
    omega
  omega
theorem sizesOf_sum (left : Nat) : ∀ rows, 1 ≤ left → (sizesOf rows left).sum = rows := by
  induction left with
  | zero => intro rows h; omega
  | succ left ih =>
    intro rows _
    unfold sizesOf
    rw [List.sum_cons]
    have h1 := share_le rows left
    rcases Nat.eq_zero_or_pos left with h0 | h0
    · subst h0
      simp [sizesOf]
    · rw [ih _ h0]
      omega
theorem sizesOf_pos (left : Nat) : ∀ rows, left ≤ rows → ∀ n ∈ sizesOf rows left, 1 ≤ n := by
  induction left with
  | zero => intro rows h n hn; simp [sizesOf] at hn
  | succ left ih =>
    intro rows h n hn
    unfold sizesOf at hn
    rcases List.mem_cons.1 hn with rfl | hn
    · exact share_pos h
    · exact ih _ (share_rest h) n hn
/-- each part has q or q + 1 rows -/
theorem sizesOf_near (left : Nat) : ∀ rows q, q * left ≤ rows → rows ≤ (q + 1) * left → ∀ n ∈ sizesOf rows left, q ≤ n ∧ n ≤ q + 1 := by
  induction left with
  | zero => intro rows q h1 h2 n hn; simp [sizesOf] at hn
  | succ left ih =>
    intro rows q h1 h2 n hn
    have d1 : q ≤ (rows + left) / (left + 1) := by rw [Nat.le_div_iff_mul_le (by omega)]; omega
    have d2 : (rows + left) / (left + 1) ≤ q + 1 := by
      rw [Nat.div_le_iff_le_mul_add_pred (by omega)]
      rw [Nat.mul_comm]
      omega
    unfold sizesOf at hn
    rcases List.mem_cons.1 hn with rfl | hn
    · exact ⟨d1, d2⟩
    · rw [Nat.mul_add, Nat.mul_one] at h1 h2
      rcases (by omega : (rows + left) / (left + 1) = q ∨ (rows + left) / (left + 1) = q + 1) with e | e
      · rw [e] at hn
        have hq : rows ≤ q * left + q := by
          have := Nat.lt_mul_div_succ (rows + left) (show 0 < left + 1 by omega)
          rw [e, Nat.add_mul, Nat.mul_add, Nat.mul_one, Nat.one_mul] at this
          rw [Nat.mul_comm]
          omega
        exact ih (rows - q) q (by omega) (by rw [Nat.add_mul]; omega) n hn
      · rw [e] at hn
        have hq : q * left + q + 1 ≤ rows := by
          have := Nat.div_mul_le_self (rows + left) (left + 1)
          rw [e, Nat.add_mul, Nat.mul_add, Nat.mul_one, Nat.one_mul] at this
          omega
        exact ih (rows - (q + 1)) q (by omega) (by omega) n hn
/-- the greater ones are first -/
theorem sizesOf_falls (left : Nat) : ∀ rows, ∀ i, i + 1 < left → (sizesOf rows left)[i + 1]?.getD 0 ≤ (sizesOf rows left)[i]?.getD 0 := by
  induction left with
  | zero => intro rows i h; omega
  | succ left ih =>
    intro rows i hi
    cases i with
    | succ i =>
      simp only [sizesOf, List.getElem?_cons_succ]
      exact ih _ i (by omega)
    | zero =>
      cases left with
      | zero => omega
      | succ left =>
        simp only [sizesOf, List.getElem?_cons_succ, List.getElem?_cons_zero, Option.getD_some]
        generalize hn : (rows + (left + 1)) / (left + 1 + 1) = n
        have h1 : rows ≤ n * (left + 2) := by
          have := Nat.lt_mul_div_succ (rows + (left + 1)) (show 0 < left + 1 + 1 by omega)
          rw [hn, Nat.mul_add, Nat.mul_one] at this
          rw [Nat.mul_comm]
          show rows ≤ (left + 1 + 1) * n
          omega
        rw [Nat.div_le_iff_le_mul_add_pred (by omega), Nat.mul_comm]
        rw [Nat.mul_add] at h1
        rw [Nat.mul_add]
        omega
end Gal
end
section
set_option linter.unusedVariables false
set_option linter.unusedSimpArgs false
set_option linter.unusedSectionVars false
namespace Gal
theorem upto_split (f : Nat → Int) (a : Nat) : ∀ b, upto f (a + b) = upto f a ++ upto (fun k => f (a + k)) b
  | 0 => by simp [upto]
  | b + 1 => by rw [← Nat.add_assoc, upto_succ, upto_succ, upto_split f a b, List.append_assoc]
theorem upto_parts (f : Nat → Int) {a n : Nat} (h : a ≤ n) : upto f n = upto f a ++ upto (fun k => f (a + k)) (n - a) := by
  rw [← upto_split]
  congr 1
  omega
theorem inEnds_upto {f : Nat → Int} {n : Nat} (h : ∀ k, k < n → clamp (f k) = f k) : inEnds (upto f n) := by
  intro j hj
  rw [upto_length] at hj
  rw [upto_ix hj]
  exact h j hj
theorem ix_left {xs ys : List Int} {k : Nat} (h : k < xs.length) : ix (xs ++ ys) k = ix xs k := by unfold ix; rw [List.getElem?_append_left h]
theorem ix_right {xs ys : List Int} {k : Nat} : ix (xs ++ ys) (xs.length + k) = ix ys k := by unfold ix; rw [List.getElem?_append_right (by omega)]; congr 2; omega
theorem more_append {xs ys row : List Int} {C a : Nat} (h : xs.length = a * C) : moreCells (xs ++ ys) row C = moreCells xs row C ++ moreCells ys row C := by
  unfold moreCells
  rw [List.length_append, upto_split]
  congr 1
  · exact upto_congr fun k hk => by rw [ix_left hk]
  · exact upto_congr fun k hk => by
      rw [ix_right, h]
      congr 2
      rw [Nat.add_comm, Nat.mul_comm, Nat.add_mul_mod_self_left]
theorem mat_form {m : Mat} (h : m.fault = 0) : ∃ (R K : Nat) (xs : List Int), m = ⟨R, K, xs⟩ ∧ R ≤ 24 ∧ K ≤ 12 ∧ xs.length = R * K ∧ inEnds xs := by
  obtain ⟨R, K, eR, eK, hR, hK, hl, he⟩ := matFault_ok h
  obtain ⟨r, c, xs⟩ := m
  dsimp only at eR eK hl he
  subst eR eK
  exact ⟨R, K, xs, rfl, hR, hK, hl, he⟩
theorem go_rows' (l : Lay) (x : Mat) : (l.go x).rows = x.rows := by
  unfold Lay.go
  by_cases h1 : l.kind = 1
  · rw [if_pos h1]
  · rw [if_neg h1]
    by_cases h2 : l.kind = 2
    · rw [if_pos h2]
    · rw [if_neg h2]
      by_cases h3 : l.kind = 3
      · rw [if_pos h3]
      · rw [if_neg h3]
theorem go_cols (l : Lay) (x : Mat) : (l.go x).cols = l.wide x.cols := by
  unfold Lay.go Lay.wide
  by_cases h1 : l.kind = 1
  · rw [if_pos h1, if_pos h1]
  · rw [if_neg h1, if_neg h1]
    by_cases h2 : l.kind = 2
    · rw [if_pos h2]
    · rw [if_neg h2]
      by_cases h3 : l.kind = 3
      · rw [if_pos h3]
      · rw [if_neg h3]
theorem matMul_cells (R K C : Nat) (xs ys : List Int) : (matMul ⟨R, K, xs⟩ ⟨K, C, ys⟩).cells.length = R * C := by
  unfold matMul
  simp only [Int.toNat_natCast]
  exact grid_length _ _ _
theorem clamp_max {x : Int} (h : clamp x = x) : clamp (max x 0) = max x 0 := by
  have h1 := clamp_lo x
  have h2 := clamp_hi x
  rw [h] at h1 h2
  exact clamp_id (by omega) (by omega)
theorem clamp_zero : clamp 0 = 0 := clamp_id (by omega) (by omega)
/-- what comes of a layer is a matrix -/
theorem go_fault {l : Lay} {x : Mat} (hf : l.goFault x = 0) : (l.go x).fault = 0 := by
  obtain ⟨hl, hx, ht⟩ := Lay.goFault_ok hf
  obtain ⟨h1, h2, fw, fb, fit⟩ := Lay.fault_ok hl
  obtain ⟨R, K, xs, rfl, hR, hK, hlen, hin⟩ := mat_form hx
  unfold Lay.go
  by_cases k1 : l.kind = 1
  · rw [if_pos k1]
    obtain ⟨R', C, ws, hW, hR', hC, hlw, _⟩ := mat_form fw
    have e := ht.1 k1
    rw [hW] at e ⊢
    dsimp only at e
    obtain rfl : K = R' := by omega
    exact matFault_zero hR hC (by rw [moreCells_length, matMul_cells]) (inEnds_upto fun k _ => clamp_clamp _)
  · rw [if_neg k1]
    by_cases k2 : l.kind = 2
    · rw [if_pos k2]
      exact matFault_zero hR hK (by rw [upto_length]; exact hlen) (inEnds_upto fun k hk => clamp_max (hin k hk))
    · rw [if_neg k2]
      by_cases k3 : l.kind = 3
      · rw [if_pos k3]
        exact matFault_zero hR hK (by rw [upto_length]; exact hlen) (inEnds_upto fun k hk => clamp_clamp _)
      · rw [if_neg k3]
        exact matFault_zero hR hK (by rw [moreCells_length]; exact hlen) (inEnds_upto fun k hk => clamp_clamp _)
/-- what goes back is a matrix, as x -/
theorem back_fault {l : Lay} {x g : Mat} (hf : l.backFault x g = 0) : (l.back x g).fault = 0 ∧ (l.back x g).rows = x.rows ∧ (l.back x g).cols = x.cols := by
  obtain ⟨f1, f2, f3, f4, f5⟩ := Lay.backFault_ok hf
  obtain ⟨hl, hx, ht⟩ := Lay.goFault_ok f1
  obtain ⟨h1, h2, fw, fb, fit⟩ := Lay.fault_ok hl
  obtain ⟨R, K, xs, rfl, hR, hK, hlen, hin⟩ := mat_form hx
  obtain ⟨R', K', ys, rfl, hR', hK', hlen', hin'⟩ := mat_form f2
  dsimp only at f3 f4 f5 ht
  obtain rfl : R' = R := by omega
  unfold Lay.back
  by_cases k1 : l.kind = 1
  · rw [if_pos k1]
    obtain ⟨Q, C, ws, hW, hQ, hC, hlw, _⟩ := mat_form fw
    have e := ht.1 k1
    have e2 : (K' : Int) = l.W.cols := by rw [f4]; unfold Lay.wide; rw [if_pos k1]
    rw [hW] at e e2 ⊢
    dsimp only at e e2
    obtain rfl : K = Q := by omega
    obtain rfl : K' = C := by omega
    refine ⟨?_, rfl, rfl⟩
    unfold matTurn
    exact matMul_fault hR hK
  · rw [if_neg k1]
    have e2 : (K' : Int) = K := by rw [f4]; unfold Lay.wide; rw [if_neg k1]
    obtain rfl : K' = K := by omega
    by_cases k2 : l.kind = 2
    · rw [if_pos k2]
      refine ⟨matFault_zero hR hK (by rw [upto_length]; exact hlen) (inEnds_upto fun k hk => ?_), rfl, rfl⟩
      by_cases hp : 0 < ix xs k
      · dsimp only; rw [if_pos hp]; exact hin' k (by rw [hlen', ← hlen]; exact hk)
      · dsimp only; rw [if_neg hp]; exact clamp_zero
    · rw [if_neg k2]
      by_cases k3 : l.kind = 3
      · rw [if_pos k3]
        exact ⟨matFault_zero hR hK (by rw [upto_length]; exact hlen') (inEnds_upto fun k hk => clamp_clamp _), rfl, rfl⟩
      · rw [if_neg k3]
        exact ⟨matFault_zero hR hK (by rw [upto_length]; exact hlen') (inEnds_upto fun k hk => hin' k hk), rfl, rfl⟩
section
variable {l : Lay} {R K k : Nat} {xs : List Int} (hk : k ≤ R)
include hk
/-- rows do not mind one another, there -/
theorem go_parts (hf : l.goFault ⟨R, K, xs⟩ = 0) :
    l.goFault (topOf R K xs k) = 0 ∧ l.goFault (botOf R K xs k) = 0 ∧ stackFault [l.go (topOf R K xs k), l.go (botOf R K xs k)] = 0 ∧ matStack [l.go (topOf R K xs k), l.go (botOf R K xs k)] = l.go ⟨R, K, xs⟩ := by
  obtain ⟨hl, hx, ht⟩ := Lay.goFault_ok hf
  obtain ⟨h1, h2, fw, fb, fit⟩ := Lay.fault_ok hl
  obtain ⟨R', K', eR, eK, hR, hK, hlen, hin⟩ := matFault_ok hx
  dsimp only at eR eK hlen hin
  obtain rfl : R = R' := by omega
  obtain rfl : K = K' := by omega
  have f1 : l.goFault (topOf R K xs k) = 0 := by unfold Lay.goFault; rw [if_neg (by simp [hl]), if_neg (by simp [top_fault hk hlen hR hK hin]), if_pos (show l.takes (topOf R K xs k).cols from ht)]
  have f2 : l.goFault (botOf R K xs k) = 0 := by unfold Lay.goFault; rw [if_neg (by simp [hl]), if_neg (by simp [bot_fault hk hlen hR hK hin]), if_pos (show l.takes (botOf R K xs k).cols from ht)]
  have hkK := kK (K := K) hk hlen
  refine ⟨f1, f2, stack_two hk hlen (go_fault f1) (go_fault f2) (by rw [go_cols, go_cols]; rfl) (by rw [go_rows', go_rows']; show (k : Int) + ((R - k : Nat) : Int) ≤ 24; omega), ?_⟩
  rw [stack_is hk hlen, go_rows', go_rows', go_cols]
  have hcell : (l.go (topOf R K xs k)).cells ++ (l.go (botOf R K xs k)).cells = (l.go ⟨R, K, xs⟩).cells := by
    have e1 : (xs.take (k * K)).length = k * K := by rw [List.length_take]; omega
    have e2 : (xs.drop (k * K)).length = R * K - k * K := by rw [List.length_drop]; omega
    have e3 : xs.take (k * K) ++ xs.drop (k * K) = xs := List.take_append_drop _ _
    unfold Lay.go
    by_cases k1 : l.kind = 1
    · simp only [if_pos k1]
      obtain ⟨Q, C, ws, hW, hQ, hC, hlw, _⟩ := mat_form fw
      have e := ht.1 k1
      rw [hW] at e ⊢
      dsimp only at e
      obtain rfl : K = Q := by omega
      have hp := congrArg Mat.cells (mul_parts (C := C) (ys := ws) hk hlen)
      rw [stack_is hk hlen] at hp
      dsimp only at hp ⊢
      rw [← hp, more_append (a := k)]
      exact matMul_cells k K C _ _
    · simp only [if_neg k1]
      by_cases k2 : l.kind = 2
      · simp only [if_pos k2]
        show upto _ (xs.take (k * K)).length ++ upto _ (xs.drop (k * K)).length = upto _ xs.length
        rw [e1, e2, hlen, upto_parts _ hkK]
        congr 1
        · exact upto_congr fun j hj => by show max (ix (xs.take (k * K)) j) 0 = _; rw [ix_take hj]
        · exact upto_congr fun j hj => by show max (ix (xs.drop (k * K)) j) 0 = _; rw [ix_drop]
      · simp only [if_neg k2]
        by_cases k3 : l.kind = 3
        · simp only [if_pos k3]
          show upto _ (xs.take (k * K)).length ++ upto _ (xs.drop (k * K)).length = upto _ xs.length
          rw [e1, e2, hlen, upto_parts _ hkK]
          congr 1
          · exact upto_congr fun j hj => by show mul (ix (xs.take (k * K)) j) _ = _; rw [ix_take hj]
          · exact upto_congr fun j hj => by show mul (ix (xs.drop (k * K)) j) _ = _; rw [ix_drop]
        · simp only [if_neg k3]
          show moreCells (xs.take (k * K)) _ (K : Int).toNat ++ moreCells (xs.drop (k * K)) _ (K : Int).toNat = moreCells xs _ (K : Int).toNat
          rw [Int.toNat_natCast, ← more_append (a := k) e1, e3]
  rw [hcell]
  have e4 : (topOf R K xs k).rows + (botOf R K xs k).rows = (l.go ⟨R, K, xs⟩).rows := by rw [go_rows']; show (k : Int) + ((R - k : Nat) : Int) = R; omega
  have e5 : l.wide (topOf R K xs k).cols = (l.go ⟨R, K, xs⟩).cols := by rw [go_cols]; rfl
  rw [e4, e5]
/-- likewise what goes back -/
theorem back_parts {C : Nat} {ys : List Int} (hf : l.backFault ⟨R, K, xs⟩ ⟨R, C, ys⟩ = 0) :
    l.backFault (topOf R K xs k) (topOf R C ys k) = 0 ∧ l.backFault (botOf R K xs k) (botOf R C ys k) = 0 ∧
    stackFault [l.back (topOf R K xs k) (topOf R C ys k), l.back (botOf R K xs k) (botOf R C ys k)] = 0 ∧ matStack [l.back (topOf R K xs k) (topOf R C ys k), l.back (botOf R K xs k) (botOf R C ys k)] = l.back ⟨R, K, xs⟩ ⟨R, C, ys⟩ := by
  have hf0 := hf
  obtain ⟨g1, g2, g3, g4, g5⟩ := Lay.backFault_ok hf
  obtain ⟨hl, hx, ht⟩ := Lay.goFault_ok g1
  obtain ⟨h1, h2, fw, fb, fit⟩ := Lay.fault_ok hl
  obtain ⟨R', K', eR, eK, hR, hK, hlen, hin⟩ := matFault_ok hx
  dsimp only at eR eK hlen hin
  obtain rfl : R = R' := by omega
  obtain rfl : K = K' := by omega
  obtain ⟨R'', C', eR', eC, _, hC, hlen', hin'⟩ := matFault_ok g2
  dsimp only at eR' eC hlen' hin'
  obtain rfl : R = R'' := by omega
  obtain rfl : C = C' := by omega
  obtain ⟨f1, f2, _, _⟩ := go_parts hk g1
  have b1 : l.backFault (topOf R K xs k) (topOf R C ys k) = 0 := by
    unfold Lay.backFault
    rw [if_neg (by simp [f1]), if_neg (by simp [top_fault hk hlen' hR hC hin']), if_neg, if_neg]
    · rintro ⟨q, q'⟩; have := g5 q; simp only [topOf] at q' this; omega
    · simp only [topOf] at g4 ⊢
      intro q
      rcases q with q | q
      · exact q rfl
      · exact q g4
  have b2 : l.backFault (botOf R K xs k) (botOf R C ys k) = 0 := by
    unfold Lay.backFault
    rw [if_neg (by simp [f2]), if_neg (by simp [bot_fault hk hlen' hR hC hin']), if_neg, if_neg]
    · rintro ⟨q, q'⟩; have := g5 q; simp only [botOf] at q' this; omega
    · simp only [botOf] at g4 ⊢
      intro q
      rcases q with q | q
      · exact q rfl
      · exact q g4
  obtain ⟨c1, c2, c3⟩ := back_fault b1
  obtain ⟨d1, d2, d3⟩ := back_fault b2
  obtain ⟨_, w2, w3⟩ := back_fault hf
  refine ⟨b1, b2, stack_two hk hlen c1 d1 (by rw [c3, d3]; rfl) (by rw [c2, d2]; show (k : Int) + ((R - k : Nat) : Int) ≤ 24; omega), ?_⟩
  rw [stack_is hk hlen, c2, d2, c3]
  have hkK := kK (K := K) hk hlen
  have hkC := kK (K := C) hk hlen'
  have hcell : (l.back (topOf R K xs k) (topOf R C ys k)).cells ++ (l.back (botOf R K xs k) (botOf R C ys k)).cells = (l.back ⟨R, K, xs⟩ ⟨R, C, ys⟩).cells := by
    have e1 : (xs.take (k * K)).length = k * K := by rw [List.length_take]; omega
    have e2 : (xs.drop (k * K)).length = R * K - k * K := by rw [List.length_drop]; omega
    have e1' : (ys.take (k * C)).length = k * C := by rw [List.length_take]; omega
    have e2' : (ys.drop (k * C)).length = R * C - k * C := by rw [List.length_drop]; omega
    have e3 : xs.take (k * K) ++ xs.drop (k * K) = xs := List.take_append_drop _ _
    unfold Lay.back
    by_cases k1 : l.kind = 1
    · simp only [if_pos k1]
      obtain ⟨Q, D, ws, hW, hQ, hD, hlw, _⟩ := mat_form fw
      have e := ht.1 k1
      have e5 : (C : Int) = l.W.cols := by dsimp only at g4; rw [g4]; unfold Lay.wide; rw [if_pos k1]
      rw [hW] at e e5 ⊢
      dsimp only at e e5
      obtain rfl : K = Q := by omega
      obtain rfl : C = D := by omega
      have hp := congrArg Mat.cells (mul_parts (C := K) (ys := (matTurn ⟨K, C, ws⟩).cells) hk hlen')
      rw [stack_is hk hlen'] at hp
      exact hp
    · simp only [if_neg k1]
      have e5 : C = K := by
        have : (C : Int) = K := by dsimp only at g4; rw [g4]; unfold Lay.wide; rw [if_neg k1]
        omega
      subst e5
      by_cases k2 : l.kind = 2
      · simp only [if_pos k2]
        show upto _ (xs.take (k * C)).length ++ upto _ (xs.drop (k * C)).length = upto _ xs.length
        rw [e1, e2, hlen, upto_parts _ hkK]
        congr 1
        · exact upto_congr fun j hj => by show (if 0 < ix (xs.take (k * C)) j then ix (ys.take (k * C)) j else 0) = _; rw [ix_take hj, ix_take hj]
        · exact upto_congr fun j hj => by show (if 0 < ix (xs.drop (k * C)) j then ix (ys.drop (k * C)) j else 0) = _; rw [ix_drop, ix_drop]
      · simp only [if_neg k2]
        by_cases k3 : l.kind = 3
        · simp only [if_pos k3]
          show upto _ (ys.take (k * C)).length ++ upto _ (ys.drop (k * C)).length = upto _ ys.length
          rw [e1', e2', hlen', upto_parts _ hkC]
          congr 1
          · exact upto_congr fun j hj => by show mul (ix (ys.take (k * C)) j) _ = _; rw [ix_take hj]
          · exact upto_congr fun j hj => by show mul (ix (ys.drop (k * C)) j) _ = _; rw [ix_drop]
        · simp only [if_neg k3]
          show upto (ix (ys.take (k * C))) (ys.take (k * C)).length ++ upto (ix (ys.drop (k * C))) (ys.drop (k * C)).length = upto (ix ys) ys.length
          rw [upto_self, upto_self, upto_self, List.take_append_drop]
  rw [hcell]
  have e4 : (topOf R K xs k).rows + (botOf R K xs k).rows = (l.back ⟨R, K, xs⟩ ⟨R, C, ys⟩).rows := by rw [w2]; show (k : Int) + ((R - k : Nat) : Int) = R; omega
  have e5 : (topOf R K xs k).cols = (l.back ⟨R, K, xs⟩ ⟨R, C, ys⟩).cols := by rw [w3]; rfl
  rw [e4, e5]
end
/-- the layer that lets by what is above nought -/
def reluL : Lay := ⟨2, Mat.none, Mat.none⟩
theorem reluL_fault : reluL.fault = 0 := by decide
theorem reluL_go (x : Mat) : reluL.goFault x = x.fault := by
  unfold Lay.goFault
  rw [if_neg (by simp [reluL_fault])]
  by_cases h : x.fault = 0
  · rw [if_neg (by simp [h]), if_pos (by constructor <;> intro q <;> exact absurd q (by decide)), h]
  · rw [if_pos h]
theorem reluL_is (x : Mat) : reluL.go x = ⟨x.rows, x.cols, upto (fun k => max (ix x.cells k) 0) x.cells.length⟩ := rfl
theorem reluL_twice (x : Mat) : reluL.go (reluL.go x) = reluL.go x := by
  rw [reluL_is (reluL.go x)]
  rw [reluL_is x]
  simp only [upto_length]
  congr 1
  exact upto_congr fun k hk => by rw [upto_ix hk]; omega
/-- layers that do nothing -/
def unitL (K : Nat) : Lay := ⟨1, ⟨K, K, unitTo K K⟩, ⟨1, K, zeros K⟩⟩
def oneL : Lay := ⟨3, ⟨1, 1, [256]⟩, Mat.none⟩
def noughtL (K : Nat) : Lay := ⟨4, Mat.none, ⟨1, K, zeros K⟩⟩
theorem zeros_inEnds (n : Nat) : inEnds (zeros n) := fun j _ => by rw [zeros_ix]; exact clamp_zero
theorem zeros_ok {K : Nat} (hK : K ≤ 12) : (⟨1, K, zeros K⟩ : Mat).fault = 0 := matFault_zero (R := 1) (by omega) hK (by rw [zeros_length]; omega) (zeros_inEnds K)
theorem more_zeros {xs : List Int} {K : Nat} (h : inEnds xs) : moreCells xs (zeros K) K = xs := by
  unfold moreCells
  refine Eq.trans (upto_congr fun k hk => ?_) upto_self
  rw [zeros_ix, add_zero]
  exact h k hk
theorem unit_turn (K : Nat) : matTurn ⟨K, K, unitTo K K⟩ = ⟨K, K, unitTo K K⟩ := by
  unfold matTurn
  simp only [Int.toNat_natCast]
  congr 1
  unfold unitTo
  exact grid_congr fun i j hi hj => by
    rw [grid_ix _ K K j i hj hi]
    by_cases h : i = j
    · subst h; rfl
    · rw [if_neg (by omega), if_neg (by omega)]
section
variable {R K : Nat} {xs : List Int} (hK1 : 1 ≤ K) (hf : (⟨R, K, xs⟩ : Mat).fault = 0)
include hK1 hf
theorem unitL_ok : (unitL K).goFault ⟨R, K, xs⟩ = 0 ∧ (unitL K).go ⟨R, K, xs⟩ = ⟨R, K, xs⟩ := by
  obtain ⟨R', K', eR, eK, hR, hK, hlen, hin⟩ := matFault_ok hf
  dsimp only at eR eK hlen hin
  obtain rfl : R = R' := by omega
  obtain rfl : K = K' := by omega
  have h1 : (unitL K).fault = 0 := by
    unfold Lay.fault
    rw [if_neg (by simp [unitL]), if_neg (by simpa [unitL, Mat.fault] using unit_ok hK), if_neg (by simpa [unitL] using zeros_ok hK), if_pos]
    exact Or.inl ⟨rfl, by show (0 : Int) < K; omega, by show (0 : Int) < K; omega, by show (K : Int) ≤ 12; omega, rfl, rfl⟩
  refine ⟨?_, ?_⟩
  · unfold Lay.goFault
    rw [if_neg (by simp [h1]), if_neg (by simp [hf]), if_pos]
    exact ⟨fun _ => rfl, fun h => absurd (show (1 : Int) = 4 from h) (by decide)⟩
  · show (⟨_, _, moreCells (matMul ⟨R, K, xs⟩ ⟨K, K, unitTo K K⟩).cells (zeros K) (K : Int).toNat⟩ : Mat) = _
    rw [unit_law hlen hin, Int.toNat_natCast, more_zeros hin]
    rfl
theorem oneL_ok : oneL.goFault ⟨R, K, xs⟩ = 0 ∧ oneL.go ⟨R, K, xs⟩ = ⟨R, K, xs⟩ := by
  obtain ⟨R', K', eR, eK, hR, hK, hlen, hin⟩ := matFault_ok hf
  dsimp only at eR eK hlen hin
  have h1 : oneL.fault = 0 := by decide
  refine ⟨?_, ?_⟩
  · unfold Lay.goFault
    rw [if_neg (by simp [h1]), if_neg (by simp [hf]), if_pos]
    exact ⟨fun h => absurd h (by decide), fun h => absurd h (by decide)⟩
  · show (⟨R, K, upto (fun k => mul (ix xs k) 256) xs.length⟩ : Mat) = _
    congr 1
    exact Eq.trans (upto_congr fun k hk => by rw [mul_one]; exact hin k hk) upto_self
theorem noughtL_ok : (noughtL K).goFault ⟨R, K, xs⟩ = 0 ∧ (noughtL K).go ⟨R, K, xs⟩ = ⟨R, K, xs⟩ := by
  obtain ⟨R', K', eR, eK, hR, hK, hlen, hin⟩ := matFault_ok hf
  dsimp only at eR eK hlen hin
  obtain rfl : R = R' := by omega
  obtain rfl : K = K' := by omega
  have h1 : (noughtL K).fault = 0 := by
    unfold Lay.fault
    rw [if_neg (by simp [noughtL]), if_neg (by simp [noughtL]; decide), if_neg (by simpa [noughtL] using zeros_ok hK), if_pos]
    exact Or.inr (Or.inr (Or.inr ⟨rfl, ⟨rfl, rfl⟩, rfl, by show (0 : Int) < K; omega⟩))
  refine ⟨?_, ?_⟩
  · unfold Lay.goFault
    rw [if_neg (by simp [h1]), if_neg (by simp [hf]), if_pos]
    exact ⟨fun h => absurd (show (4 : Int) = 1 from h) (by decide), fun _ => rfl⟩
  · show (⟨R, K, moreCells xs (zeros K) (K : Int).toNat⟩ : Mat) = _
    rw [Int.toNat_natCast, more_zeros hin]
end
theorem unitL_back {K : Nat} {x g : Mat} (hf : (unitL K).backFault x g = 0) : (unitL K).back x g = g := by
  obtain ⟨g1, g2, g3, g4, g5⟩ := Lay.backFault_ok hf
  obtain ⟨R, C, ys, rfl, hR, hC, hlen, hin⟩ := mat_form g2
  dsimp only at g4
  obtain rfl : C = K := by
    have : (C : Int) = K := g4
    omega
  show matMul ⟨R, C, ys⟩ (matTurn ⟨C, C, unitTo C C⟩) = _
  rw [unit_turn, unit_law hlen hin]
theorem oneL_back {x g : Mat} (hf : oneL.backFault x g = 0) : oneL.back x g = g := by
  obtain ⟨g1, g2, g3, g4, g5⟩ := Lay.backFault_ok hf
  obtain ⟨R, C, ys, rfl, hR, hC, hlen, hin⟩ := mat_form g2
  show (⟨R, C, upto (fun k => mul (ix ys k) 256) ys.length⟩ : Mat) = _
  congr 1
  exact Eq.trans (upto_congr fun k hk => by rw [mul_one]; exact hin k hk) upto_self
theorem noughtL_back {K : Nat} {x g : Mat} : (noughtL K).back x g = g := by
  show (⟨g.rows, g.cols, upto (ix g.cells) g.cells.length⟩ : Mat) = g
  rw [upto_self]
end Gal
end
section
set_option linter.unusedVariables false
set_option linter.unusedSimpArgs false
namespace Gal
def Lay.none : Lay := ⟨0, Mat.none, Mat.none⟩
def lx (n : List Lay) (i : Nat) : Lay := n[i]?.getD Lay.none
theorem lx_of {n : List Lay} {i : Nat} {l : Lay} (h : n[i]? = some l) : lx n i = l := by unfold lx; rw [h]; rfl
theorem lx_get {n : List Lay} {i : Nat} (h : i < n.length) : n[i]? = some (lx n i) := by unfold lx; rw [List.getElem?_eq_getElem h]; rfl
/-- how wide it is behind the first k layers -/
def netW (n : List Lay) (i : Int) : Nat → Int
  | 0 => i
  | k + 1 => (lx n k).wide (netW n i k)
/-- what is wrong with the first k layers, of so many columns -/
def wideTo (n : List Lay) (i : Int) : Nat → Int
  | 0 => 0
  | k + 1 => if wideTo n i k = 0 then (lx n k).wideFault (netW n i k) else wideTo n i k
def netWideFault (n : List Lay) (i : Int) : Int :=
  if 12 < n.length then 3 else if n.length = 0 ∧ (i < 0 ∨ 12 < i) then 1 else wideTo n i n.length
/-- what comes behind the first k layers -/
def netTo (n : List Lay) (x : Mat) : Nat → Mat
  | 0 => x
  | k + 1 => (lx n k).go (netTo n x k)
def goTo (n : List Lay) (x : Mat) : Nat → Int
  | 0 => 0
  | k + 1 => if goTo n x k = 0 then (lx n k).goFault (netTo n x k) else goTo n x k
def netGoFault (n : List Lay) (x : Mat) : Int := if 12 < n.length then 3 else if x.fault ≠ 0 then x.fault else goTo n x n.length
/-- what stands behind each of the first k layers -/
def netOuts (n : List Lay) (x : Mat) (k : Nat) : List Mat := (List.range (k + 1)).map (netTo n x)
theorem netOuts_zero (n : List Lay) (x : Mat) : netOuts n x 0 = [x] := rfl
theorem netOuts_succ (n : List Lay) (x : Mat) (k : Nat) : netOuts n x (k + 1) = netOuts n x k ++ [netTo n x (k + 1)] := by
  unfold netOuts
  rw [List.range_succ (n := k + 1), List.map_append]
  rfl
theorem netOuts_length (n : List Lay) (x : Mat) (k : Nat) : (netOuts n x k).length = k + 1 := by simp [netOuts]
theorem netOuts_last (n : List Lay) (x : Mat) (k : Nat) : (netOuts n x k)[k]? = some (netTo n x k) := by simp [netOuts]
theorem wideTo_stop {n : List Lay} {i : Int} {k m : Nat} (h : k ≤ m) (hk : wideTo n i k ≠ 0) : wideTo n i m = wideTo n i k := by
  induction m with
  | zero => obtain rfl : k = 0 := by omega
            rfl
  | succ m ih =>
    by_cases hm : k ≤ m
    · have := ih hm
      show (if wideTo n i m = 0 then _ else wideTo n i m) = _
      rw [if_neg (by rw [this]; exact hk), this]
    · obtain rfl : k = m + 1 := by omega
      rfl
theorem goTo_stop {n : List Lay} {x : Mat} {k m : Nat} (h : k ≤ m) (hk : goTo n x k ≠ 0) : goTo n x m = goTo n x k := by
  induction m with
  | zero => obtain rfl : k = 0 := by omega
            rfl
  | succ m ih =>
    by_cases hm : k ≤ m
    · have := ih hm
      show (if goTo n x m = 0 then _ else goTo n x m) = _
      rw [if_neg (by rw [this]; exact hk), this]
    · obtain rfl : k = m + 1 := by omega
      rfl
theorem wideTo_succ {n : List Lay} {i : Int} {k : Nat} (h : wideTo n i k = 0) : wideTo n i (k + 1) = (lx n k).wideFault (netW n i k) := if_pos h
theorem goTo_succ {n : List Lay} {x : Mat} {k : Nat} (h : goTo n x k = 0) : goTo n x (k + 1) = (lx n k).goFault (netTo n x k) := if_pos h
/-- widths behind layers without a fault lie between 0 and 12 -/
theorem wide_bd {l : Lay} {i : Int} (h : l.wideFault i = 0) : 0 ≤ l.wide i ∧ l.wide i ≤ 12 := by
  obtain ⟨h1, h2, h3, h4⟩ := Lay.wideFault_ok h
  obtain ⟨_, _, fw, _, _⟩ := Lay.fault_ok h1
  obtain ⟨R, K, _, e, _, hK, _⟩ := matFault_ok fw
  unfold Lay.wide
  by_cases q : l.kind = 1
  · rw [if_pos q]; omega
  · rw [if_neg q]; omega
theorem netW_bd {n : List Lay} {i : Int} {k : Nat} (h : wideTo n i k = 0) (hk : 0 < k) : 0 ≤ netW n i k ∧ netW n i k ≤ 12 := by
  cases k with
  | zero => omega
  | succ k =>
    by_cases h0 : wideTo n i k = 0
    · rw [wideTo_succ h0] at h
      exact wide_bd h
    · have : wideTo n i (k + 1) = wideTo n i k := if_neg h0
      rw [this] at h
      exact absurd h h0
theorem netTo_fault {n : List Lay} {x : Mat} {k : Nat} (hx : x.fault = 0) (h : goTo n x k = 0) : (netTo n x k).fault = 0 := by
  cases k with
  | zero => exact hx
  | succ k =>
    by_cases h0 : goTo n x k = 0
    · rw [goTo_succ h0] at h
      exact go_fault h
    · have : goTo n x (k + 1) = goTo n x k := if_neg h0
      rw [this] at h
      exact absurd h h0
end Gal
end
section
set_option linter.unusedVariables false
set_option linter.unusedSimpArgs false
namespace Gal
def gx (ds : List Grd) (i : Nat) : Grd := ds[i]?.getD Grd.none
theorem gx_get {ds : List Grd} {i : Nat} (h : i < ds.length) : ds[i]? = some (gx ds i) := by unfold gx; rw [List.getElem?_eq_getElem h]; rfl
/-- the new speed of a part -/
def stepSpeed (w v d : Mat) (kp : Int) : Mat := ⟨w.rows, w.cols, upto (fun k => add (mul (ix v.cells k) kp) (ix d.cells k)) w.cells.length⟩
/-- the new part -/
def stepTo (w v d : Mat) (ln kp : Int) : Mat := ⟨w.rows, w.cols, upto (fun k => sub (ix w.cells k) (mul (add (mul (ix v.cells k) kp) (ix d.cells k)) ln)) w.cells.length⟩
def likeShape (a b : Mat) : Prop := a.rows = b.rows ∧ a.cols = b.cols
instance (a b : Mat) : Decidable (likeShape a b) := by unfold likeShape; exact inferInstance
/-- what is wrong with a layer, its speed and by how much -/
def fitsFault (l : Lay) (v d : Grd) : Int :=
  if l.fault ≠ 0 then l.fault else if v.W.fault ≠ 0 then v.W.fault else if v.B.fault ≠ 0 then v.B.fault else if d.W.fault ≠ 0 then d.W.fault else if d.B.fault ≠ 0 then d.B.fault else
    if likeShape v.W l.W ∧ likeShape v.B l.B ∧ likeShape d.W l.W ∧ likeShape d.B l.B then 0 else 2
theorem fitsFault_ok {l : Lay} {v d : Grd} (h : fitsFault l v d = 0) : l.fault = 0 ∧ v.W.fault = 0 ∧ v.B.fault = 0 ∧ d.W.fault = 0 ∧ d.B.fault = 0 ∧ likeShape v.W l.W ∧ likeShape v.B l.B ∧ likeShape d.W l.W ∧ likeShape d.B l.B := by
  unfold fitsFault at h
  by_cases h1 : l.fault = 0
  · rw [if_neg (by simp [h1])] at h
    by_cases h2 : v.W.fault = 0
    · rw [if_neg (by simp [h2])] at h
      by_cases h3 : v.B.fault = 0
      · rw [if_neg (by simp [h3])] at h
        by_cases h4 : d.W.fault = 0
        · rw [if_neg (by simp [h4])] at h
          by_cases h5 : d.B.fault = 0
          · rw [if_neg (by simp [h5])] at h
            by_cases h6 : likeShape v.W l.W ∧ likeShape v.B l.B ∧ likeShape d.W l.W ∧ likeShape d.B l.B
            · exact ⟨h1, h2, h3, h4, h5, h6⟩
            · rw [if_neg h6] at h; omega
          · rw [if_pos h5] at h; exact absurd h h5
        · rw [if_pos h4] at h; exact absurd h h4
      · rw [if_pos h3] at h; exact absurd h h3
    · rw [if_pos h2] at h; exact absurd h h2
  · rw [if_pos h1] at h; exact absurd h h1
def stepFaultTo (ls : List Lay) (vs ds : List Grd) : Nat → Int
  | 0 => 0
  | k + 1 => if stepFaultTo ls vs ds k = 0 then fitsFault (lx ls k) (gx vs k) (gx ds k) else stepFaultTo ls vs ds k
def stepFault (ls : List Lay) (vs ds : List Grd) (ln kp : Int) : Int :=
  if ln < 0 ∨ 256 < ln ∨ kp < 0 ∨ 256 < kp then 1 else if 12 < ls.length then 3 else if vs.length ≠ ls.length ∨ ds.length ≠ ls.length then 2 else stepFaultTo ls vs ds ls.length
theorem stepFaultTo_succ {ls : List Lay} {vs ds : List Grd} {k : Nat} (h : stepFaultTo ls vs ds k = 0) : stepFaultTo ls vs ds (k + 1) = fitsFault (lx ls k) (gx vs k) (gx ds k) := if_pos h
theorem stepFaultTo_stop {ls : List Lay} {vs ds : List Grd} {k m : Nat} (h : k ≤ m) (hk : stepFaultTo ls vs ds k ≠ 0) : stepFaultTo ls vs ds m = stepFaultTo ls vs ds k := by
  induction m with
  | zero => obtain rfl : k = 0 := by omega
            rfl
  | succ m ih =>
    by_cases hm : k ≤ m
    · have := ih hm
      show (if stepFaultTo ls vs ds m = 0 then _ else stepFaultTo ls vs ds m) = _
      rw [if_neg (by rw [this]; exact hk), this]
    · obtain rfl : k = m + 1 := by omega
      rfl
def stepLay (l : Lay) (v d : Grd) (ln kp : Int) : Lay := ⟨l.kind, stepTo l.W v.W d.W ln kp, stepTo l.B v.B d.B ln kp⟩
def stepGrd (l : Lay) (v d : Grd) (kp : Int) : Grd := ⟨stepSpeed l.W v.W d.W kp, stepSpeed l.B v.B d.B kp⟩
def stepLays (ls : List Lay) (vs ds : List Grd) (ln kp : Int) (k : Nat) : List Lay := (List.range k).map fun i => stepLay (lx ls i) (gx vs i) (gx ds i) ln kp
def stepGrds (ls : List Lay) (vs ds : List Grd) (kp : Int) (k : Nat) : List Grd := (List.range k).map fun i => stepGrd (lx ls i) (gx vs i) (gx ds i) kp
theorem stepLays_length (ls : List Lay) (vs ds : List Grd) (ln kp : Int) (k : Nat) : (stepLays ls vs ds ln kp k).length = k := by simp [stepLays]
theorem stepGrds_length (ls : List Lay) (vs ds : List Grd) (kp : Int) (k : Nat) : (stepGrds ls vs ds kp k).length = k := by simp [stepGrds]
theorem stepLays_succ (ls : List Lay) (vs ds : List Grd) (ln kp : Int) (k : Nat) : stepLays ls vs ds ln kp (k + 1) = stepLays ls vs ds ln kp k ++ [stepLay (lx ls k) (gx vs k) (gx ds k) ln kp] := by simp [stepLays, List.range_succ]
theorem stepGrds_succ (ls : List Lay) (vs ds : List Grd) (kp : Int) (k : Nat) : stepGrds ls vs ds kp (k + 1) = stepGrds ls vs ds kp k ++ [stepGrd (lx ls k) (gx vs k) (gx ds k) kp] := by simp [stepGrds, List.range_succ]
end Gal
end
section
set_option linter.unusedVariables false
set_option linter.unusedSimpArgs false
namespace Gal
section
variable (ls : List Lay) (ss : List Mat) (g : Mat) (n : Nat)
/-- what comes ahead of the last k of n layers -/
def bM : Nat → Mat
  | 0 => g
  | k + 1 => (lx ls (n - 1 - k)).back (mx ss (n - 1 - k)) (bM k)
/-- by how much the layer behind which k are is to be turned -/
def bD (k : Nat) : Grd := (lx ls (n - 1 - k)).grad (mx ss (n - 1 - k)) (bM ls ss g n k)
def bF : Nat → Int
  | 0 => 0
  | k + 1 => if bF k = 0 then (lx ls (n - 1 - k)).backFault (mx ss (n - 1 - k)) (bM ls ss g n k) else bF k
/-- how the layers are to be turned -/
def bDs : List Grd := (List.range n).map fun j => bD ls ss g n (n - 1 - j)
def netBackFault : Int := if 12 < ls.length then 3 else if ss.length ≠ ls.length + 1 then 2 else if ls.length = 0 then g.fault else bF ls ss g ls.length ls.length
end
section
variable {ls : List Lay} {ss : List Mat} {g : Mat} {n k m : Nat}
theorem bF_next (h : bF ls ss g n k = 0) : bF ls ss g n (k + 1) = (lx ls (n - 1 - k)).backFault (mx ss (n - 1 - k)) (bM ls ss g n k) := if_pos h
theorem bF_stays (h : k ≤ m) (hk : bF ls ss g n k ≠ 0) : bF ls ss g n m = bF ls ss g n k := by
  induction m with
  | zero => obtain rfl : k = 0 := by omega
            rfl
  | succ m ih =>
    rcases Nat.lt_or_ge k (m + 1) with h1 | h1
    · have e := ih (by omega)
      show (if bF ls ss g n m = 0 then _ else _) = _
      rw [if_neg (by rw [e]; exact hk), e]
    · obtain rfl : k = m + 1 := by omega
      rfl
theorem bF_stop (hk : k < n) (hz : bF ls ss g n k = 0) (hf : (lx ls (n - 1 - k)).backFault (mx ss (n - 1 - k)) (bM ls ss g n k) ≠ 0) : bF ls ss g n n = (lx ls (n - 1 - k)).backFault (mx ss (n - 1 - k)) (bM ls ss g n k) := by
  rw [bF_stays (k := k + 1) (by omega) (by rw [bF_next hz]; exact hf), bF_next hz]
theorem bDs_length : (bDs ls ss g n).length = n := by simp [bDs]
theorem bDs_gx {j : Nat} (h : j < n) : gx (bDs ls ss g n) j = bD ls ss g n (n - 1 - j) := by
  unfold gx bDs
  rw [List.getElem?_map, List.getElem?_eq_getElem (by simpa using h)]
  simp
end
section
variable (ls : List Lay) (ss : List Mat) (g : Mat)
/-- what has come of layers taken in any order: what goes on back, and by how much each is to be turned -/
def gone (l : List Nat) : Mat × (Nat → Option Grd) :=
  l.foldl (fun s i => ((lx ls i).back (mx ss i) s.1, fun j => if j = i then some ((lx ls i).grad (mx ss i) s.1) else s.2 j)) (g, fun _ => none)
theorem gone_snoc (l : List Nat) (i : Nat) : gone ls ss g (l ++ [i]) = ((lx ls i).back (mx ss i) (gone ls ss g l).1, fun j => if j = i then some ((lx ls i).grad (mx ss i) (gone ls ss g l).1) else (gone ls ss g l).2 j) := by
  unfold gone
  rw [List.foldl_append]
  rfl
inductive OkTo : List Nat → Prop
  | nil : OkTo []
  | snoc {l : List Nat} {x : Nat} (h : OkTo l) (hx : (lx ls x).backFault (mx ss x) (gone ls ss g l).1 = 0) : OkTo (l ++ [x])
end
section
variable {ls : List Lay} {ss : List Mat} {g : Mat}
theorem OkTo.inv {m : List Nat} (h : OkTo ls ss g m) : ∀ l x, m = l ++ [x] → OkTo ls ss g l ∧ (lx ls x).backFault (mx ss x) (gone ls ss g l).1 = 0 := by
  intro l x e
  cases h with
  | nil => simp at e
  | snoc h hx =>
    obtain ⟨e1, e2⟩ := List.append_inj' e rfl
    simp at e2
    subst e1 e2
    exact ⟨h, hx⟩
/-- the first k numbers below n, from the last one on -/
def descs (n k : Nat) : List Nat := (List.range k).map fun j => n - 1 - j
theorem descs_length (n k : Nat) : (descs n k).length = k := by simp [descs]
theorem descs_succ (n k : Nat) : descs n (k + 1) = descs n k ++ [n - 1 - k] := by simp [descs, List.range_succ]
theorem gone_descs (n : Nat) : ∀ t, t ≤ n → (gone ls ss g (descs n t)).1 = bM ls ss g n t ∧ ∀ j, n - t ≤ j → j < n → (gone ls ss g (descs n t)).2 j = some (bD ls ss g n (n - 1 - j))
  | 0, _ => ⟨rfl, fun j h1 h2 => by omega⟩
  | t + 1, ht => by
    obtain ⟨h1, h2⟩ := gone_descs n t (by omega)
    rw [descs_succ, gone_snoc, h1]
    refine ⟨rfl, fun j h3 h4 => ?_⟩
    dsimp only
    by_cases hj : j = n - 1 - t
    · rw [if_pos hj]
      have e : n - 1 - j = t := by omega
      rw [e]
      rfl
    · rw [if_neg hj]
      exact h2 j (by omega) h4
theorem bF_descs (n : Nat) : ∀ t, t ≤ n → OkTo ls ss g (descs n t) → bF ls ss g n t = 0
  | 0, _, _ => rfl
  | t + 1, ht, h => by
    rw [descs_succ] at h
    obtain ⟨h1, h2⟩ := h.inv _ _ rfl
    have h3 := bF_descs n t (by omega) h1
    rw [bF_next h3]
    rw [(gone_descs n t (by omega)).1] at h2
    exact h2
end
end Gal
end
section
set_option linter.unusedVariables false
set_option linter.unusedSimpArgs false
namespace Gal
section
variable {ps qs : List Lay} {x g : Mat} {n m : Nat}
theorem lx_left {j : Nat} (h : j < ps.length) : lx (ps ++ qs) j = lx ps j := by unfold lx; rw [List.getElem?_append_left h]
theorem lx_right {j : Nat} : lx (ps ++ qs) (ps.length + j) = lx qs j := by unfold lx; rw [List.getElem?_append_right (by omega)]; congr 2; omega
theorem netTo_left : ∀ {k : Nat}, k ≤ ps.length → netTo (ps ++ qs) x k = netTo ps x k
  | 0, _ => rfl
  | k + 1, h => by
    show (lx (ps ++ qs) k).go (netTo (ps ++ qs) x k) = (lx ps k).go (netTo ps x k)
    rw [netTo_left (by omega), lx_left (by omega)]
theorem netTo_right : ∀ {k : Nat}, netTo (ps ++ qs) x (ps.length + k) = netTo qs (netTo ps x ps.length) k
  | 0 => netTo_left (Nat.le_refl _)
  | k + 1 => by
    show (lx (ps ++ qs) (ps.length + k)).go (netTo (ps ++ qs) x (ps.length + k)) = (lx qs k).go (netTo qs (netTo ps x ps.length) k)
    rw [netTo_right, lx_right]
theorem goTo_left : ∀ {k : Nat}, k ≤ ps.length → goTo (ps ++ qs) x k = goTo ps x k
  | 0, _ => rfl
  | k + 1, h => by
    show (if goTo (ps ++ qs) x k = 0 then (lx (ps ++ qs) k).goFault (netTo (ps ++ qs) x k) else goTo (ps ++ qs) x k) = (if goTo ps x k = 0 then (lx ps k).goFault (netTo ps x k) else goTo ps x k)
    rw [goTo_left (by omega), netTo_left (by omega), lx_left (by omega)]
theorem goTo_right (h : goTo ps x ps.length = 0) : ∀ {k : Nat}, goTo (ps ++ qs) x (ps.length + k) = goTo qs (netTo ps x ps.length) k
  | 0 => (goTo_left (Nat.le_refl _)).trans h
  | k + 1 => by
    show (if goTo (ps ++ qs) x (ps.length + k) = 0 then (lx (ps ++ qs) (ps.length + k)).goFault (netTo (ps ++ qs) x (ps.length + k)) else goTo (ps ++ qs) x (ps.length + k)) = (if goTo qs (netTo ps x ps.length) k = 0 then (lx qs k).goFault (netTo qs (netTo ps x ps.length) k) else goTo qs (netTo ps x ps.length) k)
    rw [goTo_right h, netTo_right, lx_right]
theorem goTo_less {k j : Nat} (hk : k ≤ j) (h : goTo ps x j = 0) : goTo ps x k = 0 := Classical.byContradiction fun hne => hne ((goTo_stop hk hne).symm.trans h)
theorem outs_fault (hx : x.fault = 0) : ∀ {k : Nat}, goTo ps x k = 0 → (netTo ps x k).fault = 0
  | 0, _ => hx
  | k + 1, h => by
    have h0 := goTo_less (Nat.le_succ k) h
    rw [goTo_succ h0] at h
    exact go_fault h
/-- what comes behind the first net -/
def midOf (ps : List Lay) (x : Mat) : Mat := netTo ps x ps.length
theorem join_go (h : netGoFault (ps ++ qs) x = 0) : netGoFault ps x = 0 ∧ netGoFault qs (midOf ps x) = 0 ∧ netOuts (ps ++ qs) x (ps.length + qs.length) = netOuts ps x ps.length ++ (netOuts qs (midOf ps x) qs.length).drop 1 ∧ (midOf ps x).fault = 0 := by
  unfold netGoFault at h
  by_cases h1 : 12 < (ps ++ qs).length
  · rw [if_pos h1] at h; exact absurd h (by decide)
  rw [if_neg h1] at h
  by_cases h2 : x.fault ≠ 0
  · rw [if_pos h2] at h; exact absurd h h2
  rw [if_neg h2, List.length_append] at h
  rw [List.length_append] at h1
  have hx : x.fault = 0 := Classical.not_not.1 h2
  have ha : goTo ps x ps.length = 0 := by rw [← goTo_left (qs := qs) (Nat.le_refl _)]; exact goTo_less (by omega) h
  have hb : goTo qs (midOf ps x) qs.length = 0 := by unfold midOf; rw [← goTo_right ha]; exact h
  have hm : (midOf ps x).fault = 0 := outs_fault hx ha
  refine ⟨?_, ?_, ?_, hm⟩
  · unfold netGoFault; rw [if_neg (by omega), if_neg h2]; exact ha
  · unfold netGoFault; rw [if_neg (by omega), if_neg (by simp [hm])]; exact hb
  · unfold netOuts
    rw [show ps.length + qs.length + 1 = (ps.length + 1) + qs.length by omega, List.range_add, List.map_append]
    congr 1
    · exact List.map_congr_left fun j hj => netTo_left (by have := List.mem_range.1 hj; omega)
    · rw [List.range_succ_eq_map, List.map_cons, List.drop_one, List.tail_cons, List.map_map, List.map_map]
      refine List.map_congr_left fun j _ => ?_
      show netTo (ps ++ qs) x (ps.length + 1 + j) = netTo qs (midOf ps x) (j + 1)
      rw [show ps.length + 1 + j = ps.length + (j + 1) by omega]
      exact netTo_right
theorem outs_mx {k j : Nat} (h : j ≤ k) : mx (netOuts ps x k) j = netTo ps x j := by
  unfold mx netOuts
  rw [List.getElem?_map, List.getElem?_range (by omega)]
  rfl
/-- what was seen by both, by the first one, by the second one -/
abbrev sawAll (ps qs : List Lay) (x : Mat) : List Mat := netOuts (ps ++ qs) x (ps.length + qs.length)
abbrev sawOne (ps : List Lay) (x : Mat) : List Mat := netOuts ps x ps.length
theorem saw_left {j : Nat} (h : j ≤ ps.length) : mx (sawAll ps qs x) j = mx (sawOne ps x) j := by
  unfold sawAll sawOne
  rw [outs_mx (by omega), outs_mx h, netTo_left h]
theorem saw_right {j : Nat} (h : j ≤ qs.length) : mx (sawAll ps qs x) (ps.length + j) = mx (sawOne qs (midOf ps x)) j := by
  unfold sawAll sawOne
  rw [outs_mx (by omega), outs_mx h, netTo_right]
  rfl
theorem bM_right : ∀ {t : Nat}, t ≤ qs.length → bM (ps ++ qs) (sawAll ps qs x) g (ps.length + qs.length) t = bM qs (sawOne qs (midOf ps x)) g qs.length t
  | 0, _ => rfl
  | t + 1, h => by
    show (lx (ps ++ qs) (ps.length + qs.length - 1 - t)).back (mx (sawAll ps qs x) (ps.length + qs.length - 1 - t)) (bM (ps ++ qs) (sawAll ps qs x) g (ps.length + qs.length) t) = (lx qs (qs.length - 1 - t)).back (mx (sawOne qs (midOf ps x)) (qs.length - 1 - t)) (bM qs (sawOne qs (midOf ps x)) g qs.length t)
    rw [bM_right (by omega), show ps.length + qs.length - 1 - t = ps.length + (qs.length - 1 - t) by omega, lx_right, saw_right (by omega)]
theorem bF_right : ∀ {t : Nat}, t ≤ qs.length → bF (ps ++ qs) (sawAll ps qs x) g (ps.length + qs.length) t = bF qs (sawOne qs (midOf ps x)) g qs.length t
  | 0, _ => rfl
  | t + 1, h => by
    show (if bF (ps ++ qs) (sawAll ps qs x) g (ps.length + qs.length) t = 0 then (lx (ps ++ qs) (ps.length + qs.length - 1 - t)).backFault (mx (sawAll ps qs x) (ps.length + qs.length - 1 - t)) (bM (ps ++ qs) (sawAll ps qs x) g (ps.length + qs.length) t) else bF (ps ++ qs) (sawAll ps qs x) g (ps.length + qs.length) t) =
      (if bF qs (sawOne qs (midOf ps x)) g qs.length t = 0 then (lx qs (qs.length - 1 - t)).backFault (mx (sawOne qs (midOf ps x)) (qs.length - 1 - t)) (bM qs (sawOne qs (midOf ps x)) g qs.length t) else bF qs (sawOne qs (midOf ps x)) g qs.length t)
    rw [bF_right (by omega), bM_right (by omega), show ps.length + qs.length - 1 - t = ps.length + (qs.length - 1 - t) by omega, lx_right, saw_right (by omega)]
/-- what comes back out of the second net -/
def backOf (ps qs : List Lay) (x g : Mat) : Mat := bM qs (sawOne qs (midOf ps x)) g qs.length qs.length
theorem bM_left : ∀ {t : Nat}, t ≤ ps.length → bM (ps ++ qs) (sawAll ps qs x) g (ps.length + qs.length) (qs.length + t) = bM ps (sawOne ps x) (backOf ps qs x g) ps.length t
  | 0, _ => bM_right (Nat.le_refl _)
  | t + 1, h => by
    show (lx (ps ++ qs) (ps.length + qs.length - 1 - (qs.length + t))).back (mx (sawAll ps qs x) (ps.length + qs.length - 1 - (qs.length + t))) (bM (ps ++ qs) (sawAll ps qs x) g (ps.length + qs.length) (qs.length + t)) = (lx ps (ps.length - 1 - t)).back (mx (sawOne ps x) (ps.length - 1 - t)) (bM ps (sawOne ps x) (backOf ps qs x g) ps.length t)
    rw [bM_left (by omega), show ps.length + qs.length - 1 - (qs.length + t) = ps.length - 1 - t by omega, lx_left (by omega), saw_left (by omega)]
theorem bF_left (h0 : bF qs (sawOne qs (midOf ps x)) g qs.length qs.length = 0) : ∀ {t : Nat}, t ≤ ps.length → bF (ps ++ qs) (sawAll ps qs x) g (ps.length + qs.length) (qs.length + t) = bF ps (sawOne ps x) (backOf ps qs x g) ps.length t
  | 0, _ => (bF_right (Nat.le_refl _)).trans h0
  | t + 1, h => by
    show (if bF (ps ++ qs) (sawAll ps qs x) g (ps.length + qs.length) (qs.length + t) = 0 then (lx (ps ++ qs) (ps.length + qs.length - 1 - (qs.length + t))).backFault (mx (sawAll ps qs x) (ps.length + qs.length - 1 - (qs.length + t))) (bM (ps ++ qs) (sawAll ps qs x) g (ps.length + qs.length) (qs.length + t)) else bF (ps ++ qs) (sawAll ps qs x) g (ps.length + qs.length) (qs.length + t)) =
      (if bF ps (sawOne ps x) (backOf ps qs x g) ps.length t = 0 then (lx ps (ps.length - 1 - t)).backFault (mx (sawOne ps x) (ps.length - 1 - t)) (bM ps (sawOne ps x) (backOf ps qs x g) ps.length t) else bF ps (sawOne ps x) (backOf ps qs x g) ps.length t)
    rw [bF_left h0 (by omega), bM_left (by omega), show ps.length + qs.length - 1 - (qs.length + t) = ps.length - 1 - t by omega, lx_left (by omega), saw_left (by omega)]
theorem bDs_join : bDs (ps ++ qs) (sawAll ps qs x) g (ps.length + qs.length) = bDs ps (sawOne ps x) (backOf ps qs x g) ps.length ++ bDs qs (sawOne qs (midOf ps x)) g qs.length := by
  unfold bDs
  rw [List.range_add, List.map_append, List.map_map]
  congr 1
  · refine List.map_congr_left fun j hj => ?_
    have hj' := List.mem_range.1 hj
    unfold bD
    rw [show ps.length + qs.length - 1 - j = qs.length + (ps.length - 1 - j) by omega, bM_left (by omega), show ps.length + qs.length - 1 - (qs.length + (ps.length - 1 - j)) = ps.length - 1 - (ps.length - 1 - j) by omega, lx_left (by omega), saw_left (by omega)]
  · refine List.map_congr_left fun j hj => ?_
    have hj' := List.mem_range.1 hj
    show bD (ps ++ qs) (sawAll ps qs x) g (ps.length + qs.length) (ps.length + qs.length - 1 - (ps.length + j)) = bD qs (sawOne qs (midOf ps x)) g qs.length (qs.length - 1 - j)
    unfold bD
    rw [show ps.length + qs.length - 1 - (ps.length + j) = qs.length - 1 - j by omega, bM_right (by omega), show ps.length + qs.length - 1 - (qs.length - 1 - j) = ps.length + (qs.length - 1 - (qs.length - 1 - j)) by omega, lx_right, saw_right (by omega)]
theorem bF_less {ls : List Lay} {ss : List Mat} {k j : Nat} (hk : k ≤ j) (h : bF ls ss g n j = 0) : bF ls ss g n k = 0 := Classical.byContradiction fun hne => hne ((bF_stays hk hne).symm.trans h)
/-- what comes back is whole -/
theorem bM_fault {ls : List Lay} {ss : List Mat} {k : Nat} (hk : 0 < k) (h : bF ls ss g n k = 0) : (bM ls ss g n k).fault = 0 := by
  obtain ⟨j, rfl⟩ : ∃ j, k = j + 1 := ⟨k - 1, by omega⟩
  have h0 := bF_less (Nat.le_succ j) h
  rw [bF_next h0] at h
  exact (back_fault h).1
theorem bF_g {ls : List Lay} {ss : List Mat} {k : Nat} (hk : 0 < k) (h : bF ls ss g n k = 0) : g.fault = 0 := by
  have h1 := bF_less (show 1 ≤ k from hk) h
  rw [bF_next rfl] at h1
  exact (Lay.backFault_ok h1).2.1
theorem netBackFault_ok {ls : List Lay} {ss : List Mat} (h : netBackFault ls ss g = 0) : ls.length ≤ 12 ∧ ss.length = ls.length + 1 ∧ g.fault = 0 ∧ bF ls ss g ls.length ls.length = 0 ∧ (bM ls ss g ls.length ls.length).fault = 0 := by
  unfold netBackFault at h
  by_cases h1 : 12 < ls.length
  · rw [if_pos h1] at h; exact absurd h (by decide)
  rw [if_neg h1] at h
  by_cases h2 : ss.length ≠ ls.length + 1
  · rw [if_pos h2] at h; exact absurd h (by decide)
  rw [if_neg h2] at h
  by_cases h3 : ls.length = 0
  · rw [if_pos h3] at h
    rw [h3]
    exact ⟨by omega, by omega, h, rfl, h⟩
  · rw [if_neg h3] at h
    exact ⟨by omega, by omega, bF_g (by omega) h, h, bM_fault (by omega) h⟩
theorem netBackFault_zero {ls : List Lay} {ss : List Mat} (h1 : ls.length ≤ 12) (h2 : ss.length = ls.length + 1) (hg : g.fault = 0) (h : bF ls ss g ls.length ls.length = 0) : netBackFault ls ss g = 0 := by
  unfold netBackFault
  rw [if_neg (by omega), if_neg (by omega)]
  by_cases h3 : ls.length = 0
  · rw [if_pos h3]; exact hg
  · rw [if_neg h3]; exact h
theorem join_back (h : netBackFault (ps ++ qs) (sawAll ps qs x) g = 0) : netBackFault qs (sawOne qs (midOf ps x)) g = 0 ∧ (backOf ps qs x g).fault = 0 ∧ netBackFault ps (sawOne ps x) (backOf ps qs x g) = 0 ∧
    bM (ps ++ qs) (sawAll ps qs x) g (ps.length + qs.length) (ps.length + qs.length) = bM ps (sawOne ps x) (backOf ps qs x g) ps.length ps.length := by
  obtain ⟨h1, _, hg, hb, _⟩ := netBackFault_ok h
  rw [List.length_append] at h1 hb
  have hq : bF qs (sawOne qs (midOf ps x)) g qs.length qs.length = 0 := by rw [← bF_right (Nat.le_refl _)]; exact bF_less (by omega) hb
  have h2 : netBackFault qs (sawOne qs (midOf ps x)) g = 0 := netBackFault_zero (by omega) (netOuts_length _ _ _) hg hq
  have hm : (backOf ps qs x g).fault = 0 := (netBackFault_ok h2).2.2.2.2
  refine ⟨h2, hm, netBackFault_zero (by omega) (netOuts_length _ _ _) hm ?_, ?_⟩
  · rw [← bF_left hq (Nat.le_refl _)]
    have e : qs.length + ps.length = ps.length + qs.length := by omega
    exact (congrArg (bF (ps ++ qs) (sawAll ps qs x) g (ps.length + qs.length)) e).trans hb
  · have e : ps.length + qs.length = qs.length + ps.length := by omega
    exact (congrArg (bM (ps ++ qs) (sawAll ps qs x) g (ps.length + qs.length)) e).trans (bM_left (Nat.le_refl _))
end
end Gal
end
section
set_option linter.unusedVariables false
set_option linter.unusedSimpArgs false
namespace Gal
def pairFault (a b : Grd) : Int := if lossFault a.W b.W = 0 then lossFault a.B b.B else lossFault a.W b.W
theorem pairFault_w {a b : Grd} (h : lossFault a.W b.W ≠ 0) : pairFault a b = lossFault a.W b.W := if_neg h
theorem pairFault_b {a b : Grd} (h : lossFault a.W b.W = 0) : pairFault a b = lossFault a.B b.B := if_pos h
def gatherFaultTo (as bs : List Grd) : Nat → Int
  | 0 => 0
  | k + 1 => if gatherFaultTo as bs k = 0 then pairFault (gx as k) (gx bs k) else gatherFaultTo as bs k
def gatherFault (as bs : List Grd) : Int := if as.length = bs.length then gatherFaultTo as bs as.length else 2
theorem gather_next {as bs : List Grd} {k : Nat} (h : gatherFaultTo as bs k = 0) : gatherFaultTo as bs (k + 1) = pairFault (gx as k) (gx bs k) := if_pos h
theorem gather_stays {as bs : List Grd} {k m : Nat} (h : k ≤ m) (hk : gatherFaultTo as bs k ≠ 0) : gatherFaultTo as bs m = gatherFaultTo as bs k := by
  induction m with
  | zero => obtain rfl : k = 0 := by omega
            rfl
  | succ m ih =>
    rcases Nat.lt_or_ge k (m + 1) with h1 | h1
    · have e := ih (by omega)
      show (if gatherFaultTo as bs m = 0 then _ else _) = _
      rw [if_neg (by rw [e]; exact hk), e]
    · obtain rfl : k = m + 1 := by omega
      rfl
theorem gather_stop {as bs : List Grd} {t n : Nat} (ht : t < n) (hz : gatherFaultTo as bs t = 0) (hp : pairFault (gx as t) (gx bs t) ≠ 0) : gatherFaultTo as bs n = pairFault (gx as t) (gx bs t) := by
  rw [gather_stays (k := t + 1) (by omega) (by rw [gather_next hz]; exact hp), gather_next hz]
def pairSum (a b : Grd) : Grd := ⟨matAdd a.W b.W, matAdd a.B b.B⟩
def gatherTo (as bs : List Grd) (k : Nat) : List Grd := (List.range k).map fun i => pairSum (gx as i) (gx bs i)
theorem gatherTo_length (as bs : List Grd) (k : Nat) : (gatherTo as bs k).length = k := by simp [gatherTo]
theorem gatherTo_succ (as bs : List Grd) (k : Nat) : gatherTo as bs (k + 1) = gatherTo as bs k ++ [pairSum (gx as k) (gx bs k)] := by simp [gatherTo, List.range_succ]
end Gal
end
section
set_option linter.unusedVariables false
set_option linter.unusedSimpArgs false
namespace Gal
theorem nought_mul_left (a : Int) : mul 0 a = 0 := by rw [swap_mul, nought_mul]
theorem sub_nought {a : Int} (h : clamp a = a) : sub a 0 = a := by
  unfold sub
  rw [h, clamp_zero, Int.sub_zero, h]
theorem fault_ends {m : Mat} (h : m.fault = 0) : inEnds m.cells := by
  obtain ⟨R, C, _, _, _, _, _, he⟩ := matFault_ok h
  exact he
def zeroMat (m : Mat) : Mat := ⟨m.rows, m.cols, zeros m.cells.length⟩
def zeroGrd (l : Lay) : Grd := ⟨zeroMat l.W, zeroMat l.B⟩
def zeroNet (ls : List Lay) : List Grd := ls.map zeroGrd
theorem zeroNet_length (ls : List Lay) : (zeroNet ls).length = ls.length := by simp [zeroNet]
theorem zeroNet_gx (ls : List Lay) (k : Nat) : gx (zeroNet ls) k = zeroGrd (lx ls k) := by
  unfold gx lx zeroNet
  rw [List.getElem?_map]
  cases ls[k]? with
  | some l => rfl
  | none => rfl
theorem zeroMat_fault {m : Mat} (h : m.fault = 0) : (zeroMat m).fault = 0 := by
  obtain ⟨R, C, hr, hc, hR, hC, hl, he⟩ := matFault_ok h
  show matFault m.rows m.cols (zeros m.cells.length) = 0
  rw [hr, hc]
  exact matFault_zero hR hC (by rw [zeros_length]; exact hl) (zeros_inEnds _)
theorem fits_mk {l : Lay} {v d : Grd} (h0 : l.fault = 0) (h1 : v.W.fault = 0) (h2 : v.B.fault = 0) (h3 : d.W.fault = 0) (h4 : d.B.fault = 0)
    (h5 : likeShape v.W l.W) (h6 : likeShape v.B l.B) (h7 : likeShape d.W l.W) (h8 : likeShape d.B l.B) : fitsFault l v d = 0 := by
  unfold fitsFault
  rw [if_neg (by simp [h0]), if_neg (by simp [h1]), if_neg (by simp [h2]), if_neg (by simp [h3]), if_neg (by simp [h4]), if_pos ⟨h5, h6, h7, h8⟩]
theorem fits_rest_v {l : Lay} {v d : Grd} (h : fitsFault l v d = 0) : fitsFault l (zeroGrd l) d = 0 := by
  obtain ⟨h0, h1, h2, h3, h4, h5, h6, h7, h8⟩ := fitsFault_ok h
  obtain ⟨_, _, hW, hB, _⟩ := Lay.fault_ok h0
  exact fits_mk h0 (zeroMat_fault hW) (zeroMat_fault hB) h3 h4 ⟨rfl, rfl⟩ ⟨rfl, rfl⟩ h7 h8
theorem fits_rest {l : Lay} {v d : Grd} (h : fitsFault l v d = 0) : fitsFault l (zeroGrd l) (zeroGrd l) = 0 := by
  obtain ⟨h0, h1, h2, h3, h4, h5, h6, h7, h8⟩ := fitsFault_ok h
  obtain ⟨_, _, hW, hB, _⟩ := Lay.fault_ok h0
  exact fits_mk h0 (zeroMat_fault hW) (zeroMat_fault hB) (zeroMat_fault hW) (zeroMat_fault hB) ⟨rfl, rfl⟩ ⟨rfl, rfl⟩ ⟨rfl, rfl⟩ ⟨rfl, rfl⟩
theorem stepFaultTo_all {ls : List Lay} {vs ds : List Grd} : ∀ {n : Nat}, stepFaultTo ls vs ds n = 0 → ∀ k, k < n → fitsFault (lx ls k) (gx vs k) (gx ds k) = 0
  | 0, _, k, hk => absurd hk (Nat.not_lt_zero _)
  | n + 1, h, k, hk => by
    have h' : stepFaultTo ls vs ds n = 0 := by
      by_cases q : stepFaultTo ls vs ds n = 0
      · exact q
      · exact absurd ((stepFaultTo_stop (Nat.le_succ n) q).symm.trans h) q
    rcases Nat.lt_or_ge k n with g | g
    · exact stepFaultTo_all h' k g
    · obtain rfl : k = n := by omega
      rw [stepFaultTo_succ h'] at h
      exact h
theorem stepFaultTo_none {ls : List Lay} {vs ds : List Grd} : ∀ {n : Nat}, (∀ k, k < n → fitsFault (lx ls k) (gx vs k) (gx ds k) = 0) → stepFaultTo ls vs ds n = 0
  | 0, _ => rfl
  | n + 1, h => by
    rw [stepFaultTo_succ (stepFaultTo_none fun k hk => h k (by omega))]
    exact h n (Nat.lt_succ_self n)
theorem stepFault_ok {ls : List Lay} {vs ds : List Grd} {ln kp : Int} (h : stepFault ls vs ds ln kp = 0) :
    (0 ≤ ln ∧ ln ≤ 256 ∧ 0 ≤ kp ∧ kp ≤ 256) ∧ ls.length ≤ 12 ∧ vs.length = ls.length ∧ ds.length = ls.length ∧ ∀ k, k < ls.length → fitsFault (lx ls k) (gx vs k) (gx ds k) = 0 := by
  unfold stepFault at h
  by_cases h1 : ln < 0 ∨ 256 < ln ∨ kp < 0 ∨ 256 < kp
  · rw [if_pos h1] at h; omega
  · rw [if_neg h1] at h
    by_cases h2 : 12 < ls.length
    · rw [if_pos h2] at h; omega
    · rw [if_neg h2] at h
      by_cases h3 : vs.length ≠ ls.length ∨ ds.length ≠ ls.length
      · rw [if_pos h3] at h; omega
      · rw [if_neg h3] at h
        exact ⟨by omega, by omega, by omega, by omega, stepFaultTo_all h⟩
theorem stepFault_none {ls : List Lay} {vs ds : List Grd} {ln kp : Int} (h1 : 0 ≤ ln ∧ ln ≤ 256 ∧ 0 ≤ kp ∧ kp ≤ 256) (h2 : ls.length ≤ 12) (h3 : vs.length = ls.length) (h4 : ds.length = ls.length)
    (h : ∀ k, k < ls.length → fitsFault (lx ls k) (gx vs k) (gx ds k) = 0) : stepFault ls vs ds ln kp = 0 := by
  unfold stepFault
  rw [if_neg (by omega), if_neg (by omega), if_neg (by omega)]
  exact stepFaultTo_none h
theorem stepTo_still {w v d : Mat} {kp : Int} (h : w.fault = 0) : stepTo w v d 0 kp = w := by
  have he := fault_ends h
  have : upto (fun k => sub (ix w.cells k) (mul (add (mul (ix v.cells k) kp) (ix d.cells k)) 0)) w.cells.length = w.cells :=
    (upto_congr fun k hk => by rw [nought_mul, sub_nought (he k hk)]).trans upto_self
  unfold stepTo
  rw [this]
theorem stepTo_first {w v v' d : Mat} {ln : Int} : stepTo w v d ln 0 = stepTo w v' d ln 0 := by
  unfold stepTo
  simp only [nought_mul]
theorem stepSpeed_first {w v v' d : Mat} : stepSpeed w v d 0 = stepSpeed w v' d 0 := by
  unfold stepSpeed
  simp only [nought_mul]
theorem add_noughts : add 0 0 = 0 := by unfold add; rw [clamp_zero]; exact clamp_zero
theorem stepTo_rest {w u t : Mat} {ln kp : Int} (h : w.fault = 0) : stepTo w (zeroMat u) (zeroMat t) ln kp = w := by
  have he := fault_ends h
  have : upto (fun k => sub (ix w.cells k) (mul (add (mul (ix (zeroMat u).cells k) kp) (ix (zeroMat t).cells k)) ln)) w.cells.length = w.cells :=
    (upto_congr fun k hk => by
      show sub (ix w.cells k) (mul (add (mul (ix (zeros _) k) kp) (ix (zeros _) k)) ln) = ix w.cells k
      rw [zeros_ix, zeros_ix, nought_mul_left, add_noughts, nought_mul_left, sub_nought (he k hk)]).trans upto_self
  unfold stepTo
  rw [this]
theorem stepSpeed_rest {w u t : Mat} {kp : Int} : stepSpeed w (zeroMat u) (zeroMat t) kp = zeroMat w := by
  have : upto (fun k => add (mul (ix (zeroMat u).cells k) kp) (ix (zeroMat t).cells k)) w.cells.length = zeros w.cells.length :=
    (upto_congr (g := ix (zeros w.cells.length)) fun k hk => by
      show add (mul (ix (zeros _) k) kp) (ix (zeros _) k) = _
      rw [zeros_ix, zeros_ix, zeros_ix, nought_mul_left, add_noughts]).trans (by have := upto_self (xs := zeros w.cells.length); rwa [zeros_length] at this)
  unfold stepSpeed zeroMat
  rw [← this]
  rfl
theorem lays_self {ls : List Lay} : (List.range ls.length).map (lx ls) = ls := by
  apply List.ext_getElem?
  intro i
  rw [List.getElem?_map]
  by_cases h : i < ls.length
  · rw [List.getElem?_range h, lx_get h]; rfl
  · rw [List.getElem?_eq_none (by simp; omega), List.getElem?_eq_none (by omega)]; rfl
theorem range_congr {α : Type} {f g : Nat → α} {n : Nat} (h : ∀ k, k < n → f k = g k) : (List.range n).map f = (List.range n).map g :=
  List.map_congr_left fun k hk => h k (List.mem_range.1 hk)
section
variable {ls : List Lay} {vs ds : List Grd} {ln kp : Int} (h : stepFault ls vs ds ln kp = 0)
include h
theorem stays_learn : stepFault ls vs ds 0 kp = 0 ∧ stepLays ls vs ds 0 kp ls.length = ls := by
  obtain ⟨h1, h2, h3, h4, h5⟩ := stepFault_ok h
  refine ⟨stepFault_none (by omega) h2 h3 h4 h5, (range_congr fun k hk => ?_).trans lays_self⟩
  obtain ⟨g0, _⟩ := fitsFault_ok (h5 k hk)
  obtain ⟨_, _, hW, hB, _⟩ := Lay.fault_ok g0
  unfold stepLay
  rw [stepTo_still hW, stepTo_still hB]
theorem stays_first : stepFault ls vs ds ln 0 = 0 ∧ stepFault ls (zeroNet ls) ds ln 0 = 0 ∧ stepLays ls (zeroNet ls) ds ln 0 ls.length = stepLays ls vs ds ln 0 ls.length ∧ stepGrds ls (zeroNet ls) ds 0 ls.length = stepGrds ls vs ds 0 ls.length := by
  obtain ⟨h1, h2, h3, h4, h5⟩ := stepFault_ok h
  refine ⟨stepFault_none (by omega) h2 h3 h4 h5, stepFault_none (by omega) h2 (zeroNet_length _) h4 fun k hk => by rw [zeroNet_gx]; exact fits_rest_v (h5 k hk), range_congr fun k hk => ?_, range_congr fun k hk => ?_⟩
  · unfold stepLay
    rw [stepTo_first (v := (gx (zeroNet ls) k).W) (v' := (gx vs k).W), stepTo_first (v := (gx (zeroNet ls) k).B) (v' := (gx vs k).B)]
  · unfold stepGrd
    rw [stepSpeed_first (v := (gx (zeroNet ls) k).W) (v' := (gx vs k).W), stepSpeed_first (v := (gx (zeroNet ls) k).B) (v' := (gx vs k).B)]
theorem stays_rest : stepFault ls (zeroNet ls) (zeroNet ls) ln kp = 0 ∧ stepLays ls (zeroNet ls) (zeroNet ls) ln kp ls.length = ls ∧ stepGrds ls (zeroNet ls) (zeroNet ls) kp ls.length = zeroNet ls := by
  obtain ⟨h1, h2, h3, h4, h5⟩ := stepFault_ok h
  refine ⟨stepFault_none (by omega) h2 (zeroNet_length _) (zeroNet_length _) fun k hk => by rw [zeroNet_gx]; exact fits_rest (h5 k hk), (range_congr fun k hk => ?_).trans lays_self, ?_⟩
  · obtain ⟨g0, _⟩ := fitsFault_ok (h5 k hk)
    obtain ⟨_, _, hW, hB, _⟩ := Lay.fault_ok g0
    rw [zeroNet_gx]
    unfold stepLay zeroGrd
    rw [stepTo_rest hW, stepTo_rest hB]
  · have e : zeroNet ls = (List.range ls.length).map fun k => zeroGrd (lx ls k) := by
      unfold zeroNet
      conv => lhs; rw [← lays_self (ls := ls)]
      rw [List.map_map]
      rfl
    rw [e]
    refine range_congr fun k hk => ?_
    rw [← e, zeroNet_gx]
    unfold stepGrd zeroGrd
    rw [stepSpeed_rest, stepSpeed_rest]
end
def factG : Grd := ⟨⟨1, 1, [512]⟩, Mat.none⟩
theorem step_fact : stepFault [oneL] (zeroNet [oneL]) [factG] 128 0 = 0 := by decide +kernel
theorem step_fact_is : stepLays [oneL] (zeroNet [oneL]) [factG] 128 0 1 = [⟨3, ⟨1, 1, [0]⟩, Mat.none⟩] := rfl
end Gal
end
section
set_option linter.unusedVariables false
set_option linter.unusedSimpArgs false
namespace Gal
theorem wideTo_less {n : List Lay} {i : Int} {k j : Nat} (hk : k ≤ j) (h : wideTo n i j = 0) : wideTo n i k = 0 := Classical.byContradiction fun hne => hne ((wideTo_stop hk hne).symm.trans h)
/-- where the widths fit, all goes -/
theorem go_wide {n : List Lay} {x : Mat} (hx : x.fault = 0) : ∀ {k : Nat}, wideTo n x.cols k = 0 → goTo n x k = 0 ∧ (netTo n x k).cols = netW n x.cols k ∧ (netTo n x k).rows = x.rows
  | 0, _ => ⟨rfl, rfl, rfl⟩
  | k + 1, h => by
    have h0 := wideTo_less (Nat.le_succ k) h
    obtain ⟨h1, h2, h3⟩ := go_wide hx h0
    rw [wideTo_succ h0] at h
    have hf : (lx n k).goFault (netTo n x k) = 0 := by rw [Lay.goFault_wide (netTo_fault hx h1), h2]; exact h
    refine ⟨by rw [goTo_succ h1]; exact hf, ?_, ?_⟩
    · show ((lx n k).go (netTo n x k)).cols = (lx n k).wide (netW n x.cols k)
      rw [go_cols, h2]
    · show ((lx n k).go (netTo n x k)).rows = x.rows
      rw [go_rows', h3]
theorem backFault_zero {l : Lay} {x g : Mat} (h1 : l.goFault x = 0) (h2 : g.fault = 0) (h3 : g.rows = x.rows) (h4 : g.cols = l.wide x.cols) (h5 : x.rows ≤ 12) : l.backFault x g = 0 := by
  unfold Lay.backFault
  rw [if_neg (by simp [h1]), if_neg (by simp [h2]), if_neg (by simp [h3, h4]), if_neg (by omega)]
section
variable {ls : List Lay} {x g : Mat}
/-- what fits behind the last layer goes back to the first one -/
theorem backs_ok (hgo : goTo ls x ls.length = 0) (hg : g.fault = 0) (hr : g.rows = x.rows) (hc : g.cols = (netTo ls x ls.length).cols) (h12 : x.rows ≤ 12) (hrow : ∀ k, k ≤ ls.length → (netTo ls x k).rows = x.rows) :
    ∀ t, t ≤ ls.length → bF ls (netOuts ls x ls.length) g ls.length t = 0 ∧ (bM ls (netOuts ls x ls.length) g ls.length t).fault = 0 ∧ (bM ls (netOuts ls x ls.length) g ls.length t).rows = x.rows ∧ (bM ls (netOuts ls x ls.length) g ls.length t).cols = (netTo ls x (ls.length - t)).cols ∧
      (∀ s, s < t → (lx ls (ls.length - 1 - s)).backFault (mx (netOuts ls x ls.length) (ls.length - 1 - s)) (bM ls (netOuts ls x ls.length) g ls.length s) = 0)
  | 0, _ => ⟨rfl, hg, hr, hc, fun s hs => absurd hs (Nat.not_lt_zero _)⟩
  | t + 1, ht => by
    obtain ⟨h1, h2, h3, h4, h5⟩ := backs_ok hgo hg hr hc h12 hrow t (by omega)
    have hX : mx (netOuts ls x ls.length) (ls.length - 1 - t) = netTo ls x (ls.length - 1 - t) := outs_mx (by omega)
    have hgf : (lx ls (ls.length - 1 - t)).goFault (netTo ls x (ls.length - 1 - t)) = 0 := by
      have h6 := goTo_less (show ls.length - 1 - t + 1 ≤ ls.length by omega) hgo
      rwa [goTo_succ (goTo_less (Nat.le_succ _) h6)] at h6
    have hb : (lx ls (ls.length - 1 - t)).backFault (mx (netOuts ls x ls.length) (ls.length - 1 - t)) (bM ls (netOuts ls x ls.length) g ls.length t) = 0 := by
      rw [hX]
      refine backFault_zero hgf h2 ?_ ?_ (by rw [hrow _ (by omega)]; exact h12)
      · rw [h3, hrow _ (by omega)]
      · rw [h4, ← go_cols, show ls.length - t = ls.length - 1 - t + 1 by omega]
        rfl
    obtain ⟨h6, h7, h8⟩ := back_fault hb
    refine ⟨by rw [bF_next h1]; exact hb, h6, ?_, ?_, fun s hs => ?_⟩
    · refine h7.trans ?_
      rw [hX]
      exact hrow _ (by omega)
    · refine h8.trans ?_
      rw [hX, show ls.length - (t + 1) = ls.length - 1 - t by omega]
    · rcases Nat.lt_or_ge s t with h9 | h9
      · exact h5 s h9
      · obtain rfl : s = t := by omega
        exact hb
end
theorem none_fault : Mat.none.fault = 0 := by decide
theorem sums_fault {R K : Nat} {xs : List Int} (hK : K ≤ 12) : (matSums ⟨R, K, xs⟩).fault = 0 :=
  matFault_zero (R := 1) (C := K) (by omega) hK (grid_length _ _ _) (grid_inEnds fun i j _ _ => sumTo_clamp _ _)
/-- by how much a layer is to be turned is whole, and of its shape -/
def gradFits (l : Lay) (d : Grd) : Prop := d.W.fault = 0 ∧ d.B.fault = 0 ∧ likeShape d.W l.W ∧ likeShape d.B l.B
theorem grad_ok {l : Lay} {x g : Mat} (h : l.backFault x g = 0) : gradFits l (l.grad x g) := by
  obtain ⟨h1, h2, h3, h4, h5⟩ := Lay.backFault_ok h
  obtain ⟨g1, g2, g3⟩ := Lay.goFault_ok h1
  obtain ⟨k1, k2, k3, k4, k5⟩ := Lay.fault_ok g1
  obtain ⟨R, K, xs, rfl, hR, hK, hl, he⟩ := mat_form g2
  obtain ⟨R', C, gs, rfl, hR', hC, hl', he'⟩ := mat_form h2
  dsimp only at h3 h4 h5 g3
  unfold gradFits Lay.grad likeShape
  rcases k5 with ⟨e, a1, a2, a3, a4, a5⟩ | ⟨e, ⟨a1, a2⟩, ⟨a3, a4⟩⟩ | ⟨e, a1, a2, ⟨a3, a4⟩⟩ | ⟨e, ⟨a1, a2⟩, a3, a4⟩
  · rw [if_pos e]
    have hc : (C : Int) = l.W.cols := by rw [h4]; unfold Lay.wide; rw [if_pos e]
    have hk : (K : Int) = l.W.rows := g3.1 e
    have hr : R ≤ 12 := by have := h5 e; omega
    obtain rfl : R' = R := by omega
    refine ⟨?_, sums_fault hC, ⟨?_, ?_⟩, ?_, ?_⟩
    · show (matMul ⟨(K : Int), (R' : Int), (matTurn ⟨R', K, xs⟩).cells⟩ ⟨R', C, gs⟩).fault = 0
      exact matMul_fault (by omega) hC
    · show (K : Int) = _
      exact hk
    · show (C : Int) = _
      exact hc
    · show (1 : Int) = _
      exact a4.symm
    · show (C : Int) = _
      rw [a5]; exact hc
  · rw [if_neg (by omega), if_pos e]
    exact ⟨none_fault, none_fault, ⟨a1.symm, a2.symm⟩, ⟨a3.symm, a4.symm⟩⟩
  · rw [if_neg (by omega), if_neg (by omega), if_pos e]
    refine ⟨?_, none_fault, ⟨a1.symm, a2.symm⟩, ⟨a3.symm, a4.symm⟩⟩
    exact matFault_zero (R := 1) (C := 1) (by omega) (by omega) rfl (fun j hj => by
      obtain rfl : j = 0 := by simp at hj; omega
      exact sumTo_clamp _ _)
  · rw [if_neg (by omega), if_neg (by omega), if_neg (by omega)]
    have hc : (C : Int) = (K : Int) := by rw [h4]; unfold Lay.wide; rw [if_neg (by omega)]
    have hk : (K : Int) = l.B.cols := g3.2 e
    refine ⟨none_fault, sums_fault hC, ⟨a1.symm, a2.symm⟩, ?_, ?_⟩
    · show (1 : Int) = _
      exact a3.symm
    · show (C : Int) = _
      rw [hc]; exact hk
/-- a list of what is to be turned that fits a net -/
def listFits (ls : List Lay) (ds : List Grd) : Prop := ds.length = ls.length ∧ ∀ k, k < ls.length → gradFits (lx ls k) (gx ds k)
theorem bDs_fits {ls : List Lay} {x g : Mat} (hgo : goTo ls x ls.length = 0) (hg : g.fault = 0) (hr : g.rows = x.rows) (hc : g.cols = (netTo ls x ls.length).cols) (h12 : x.rows ≤ 12) (hrow : ∀ k, k ≤ ls.length → (netTo ls x k).rows = x.rows) :
    listFits ls (bDs ls (netOuts ls x ls.length) g ls.length) := by
  obtain ⟨_, _, _, _, h5⟩ := backs_ok hgo hg hr hc h12 hrow ls.length (Nat.le_refl _)
  refine ⟨bDs_length, fun k hk => ?_⟩
  rw [bDs_gx hk]
  have h6 := h5 (ls.length - 1 - k) (by omega)
  have h7 := grad_ok h6
  have e : ls.length - 1 - (ls.length - 1 - k) = k := by omega
  unfold bD
  rw [e] at h7 ⊢
  exact h7
theorem zeros_fit {ls : List Lay} (h : ∀ k, k < ls.length → (lx ls k).fault = 0) : listFits ls (zeroNet ls) := by
  refine ⟨zeroNet_length ls, fun k hk => ?_⟩
  rw [zeroNet_gx]
  obtain ⟨_, _, h3, h4, _⟩ := Lay.fault_ok (h k hk)
  exact ⟨zeroMat_fault h3, zeroMat_fault h4, ⟨rfl, rfl⟩, ⟨rfl, rfl⟩⟩
theorem matAdd_fault {a b : Mat} (ha : a.fault = 0) : (matAdd a b).fault = 0 := by
  obtain ⟨R, K, xs, rfl, hR, hK, hl, _⟩ := mat_form ha
  exact matFault_zero (R := R) (C := K) hR hK ((upto_length _ _).trans hl) (inEnds_upto fun k _ => add_clamp _ _)
/-- what fits can be put together, and fits again -/
theorem gather_fits {ls : List Lay} {as' bs : List Grd} (ha : listFits ls as') (hb : listFits ls bs) : gatherFault as' bs = 0 ∧ listFits ls (gatherTo as' bs as'.length) := by
  obtain ⟨la, fa⟩ := ha
  obtain ⟨lb, fb⟩ := hb
  have hp : ∀ k, k < ls.length → pairFault (gx as' k) (gx bs k) = 0 := fun k hk => by
    obtain ⟨a1, a2, a3, a4⟩ := fa k hk
    obtain ⟨b1, b2, b3, b4⟩ := fb k hk
    have h1 := lossFault_zero a1 b1 (a3.1.trans b3.1.symm) (a3.2.trans b3.2.symm)
    rw [pairFault_b h1]
    exact lossFault_zero a2 b2 (a4.1.trans b4.1.symm) (a4.2.trans b4.2.symm)
  refine ⟨?_, by rw [gatherTo_length, la], fun k hk => ?_⟩
  · unfold gatherFault
    rw [if_pos (by rw [la, lb]), la]
    have : ∀ k, k ≤ ls.length → gatherFaultTo as' bs k = 0 := fun k => by
      induction k with
      | zero => intro _; rfl
      | succ k ih => intro hk; rw [gather_next (ih (by omega))]; exact hp k (by omega)
    exact this _ (Nat.le_refl _)
  · have e : gx (gatherTo as' bs as'.length) k = pairSum (gx as' k) (gx bs k) := by
      unfold gx gatherTo
      rw [List.getElem?_map, List.getElem?_range (by omega)]
      rfl
    obtain ⟨a1, a2, a3, a4⟩ := fa k hk
    rw [e]
    exact ⟨matAdd_fault a1, matAdd_fault a2, a3, a4⟩
theorem lossBack_fault {a b : Mat} (ha : a.fault = 0) : (lossBack a b).fault = 0 := by
  obtain ⟨R, K, xs, rfl, hR, hK, hl, _⟩ := mat_form ha
  exact matFault_zero (R := R) (C := K) hR hK ((upto_length _ _).trans hl) (inEnds_upto fun k _ => clamp_clamp _)
end Gal
end
section
set_option linter.unusedVariables false
set_option linter.unusedSimpArgs false
namespace Gal
/-- a batch: rows, and what ought to come of them -/
structure Bat where
  I : Mat
  W : Mat
def Bat.fault (b : Bat) : Int := if b.I.fault ≠ 0 then b.I.fault else if b.W.fault ≠ 0 then b.W.fault else if b.I.rows ≠ b.W.rows ∨ b.I.rows < 1 then 2 else 0
def nx (s : List Nat) (k : Nat) : Nat := s[k]?.getD 0
/-- where the k-th part begins -/
def atOf (s : List Nat) : Nat → Nat
  | 0 => 0
  | k + 1 => atOf s k + nx s k
theorem atOf_cons (x : Nat) (s : List Nat) : ∀ k, atOf (x :: s) (k + 1) = x + atOf s k
  | 0 => by simp [atOf, nx]
  | k + 1 => by
    show atOf (x :: s) (k + 1) + nx (x :: s) (k + 1) = x + (atOf s k + nx s k)
    rw [atOf_cons x s k]
    have : nx (x :: s) (k + 1) = nx s k := by simp [nx]
    omega
theorem atOf_le : ∀ (s : List Nat) (k : Nat), atOf s k ≤ s.sum
  | [], k => by
    have : ∀ k, atOf [] k = 0 := fun k => by induction k with
      | zero => rfl
      | succ k ih => show atOf [] k + nx [] k = 0; rw [ih]; simp [nx]
    rw [this]; exact Nat.zero_le _
  | x :: s, 0 => Nat.zero_le _
  | x :: s, k + 1 => by
    rw [atOf_cons, List.sum_cons]
    have := atOf_le s k
    omega
def partOf (d : Bat) (s : List Nat) (k : Nat) : Bat := ⟨matRows d.I (atOf s k) (atOf s (k + 1)), matRows d.W (atOf s k) (atOf s (k + 1))⟩
def partsTo (d : Bat) (s : List Nat) (k : Nat) : List Bat := (List.range k).map (partOf d s)
theorem partsTo_succ (d : Bat) (s : List Nat) (k : Nat) : partsTo d s (k + 1) = partsTo d s k ++ [partOf d s k] := by simp [partsTo, List.range_succ]
theorem partsTo_length (d : Bat) (s : List Nat) (k : Nat) : (partsTo d s k).length = k := by simp [partsTo]
def splitFault (d : Bat) (p : Int) : Int := if d.fault ≠ 0 then d.fault else sizesFault d.I.rows p
theorem Bat.fault_ok {d : Bat} (h : d.fault = 0) : d.I.fault = 0 ∧ d.W.fault = 0 ∧ d.I.rows = d.W.rows ∧ 1 ≤ d.I.rows := by
  unfold Bat.fault at h
  by_cases h1 : d.I.fault = 0
  · rw [if_neg (by simp [h1])] at h
    by_cases h2 : d.W.fault = 0
    · rw [if_neg (by simp [h2])] at h
      by_cases h3 : d.I.rows ≠ d.W.rows ∨ d.I.rows < 1
      · rw [if_pos h3] at h; omega
      · exact ⟨h1, h2, by omega, by omega⟩
    · rw [if_pos h2] at h; exact absurd h h2
  · rw [if_pos h1] at h; exact absurd h h1
theorem sizesFault_ok {r p : Int} (h : sizesFault r p = 0) : 1 ≤ r ∧ r ≤ 24 ∧ 1 ≤ p ∧ p ≤ 12 ∧ p ≤ r := by
  unfold sizesFault at h
  by_cases h1 : r < 1 ∨ 24 < r ∨ p < 1 ∨ 12 < p
  · rw [if_pos h1] at h; omega
  · rw [if_neg h1] at h
    by_cases h2 : r < p
    · rw [if_pos h2] at h; omega
    · omega
theorem part_fault {m : Mat} {s : List Nat} {k : Nat} (h : m.fault = 0) (hs : (s.sum : Int) = m.rows) : rowsFault m (atOf s k) (atOf s (k + 1)) = 0 := by
  unfold rowsFault
  have h1 := atOf_le s (k + 1)
  have h2 : atOf s k ≤ atOf s (k + 1) := Nat.le_add_right _ _
  rw [if_pos h, if_neg (by omega)]
def bx (ds : List Bat) (i : Nat) : Bat := ds[i]?.getD ⟨Mat.none, Mat.none⟩
theorem bx_get {ds : List Bat} {i : Nat} (h : i < ds.length) : ds[i]? = some (bx ds i) := by unfold bx; rw [List.getElem?_eq_getElem h]; rfl
end Gal
end
section
set_option linter.unusedVariables false
set_option linter.unusedSimpArgs false
namespace Gal
/-- a part of a matrix that is whole is whole -/
theorem part_whole {m : Mat} {s : List Nat} {k : Nat} (h : m.fault = 0) (hs : (s.sum : Int) = m.rows) : (matRows m (atOf s k) (atOf s (k + 1))).fault = 0 ∧ (matRows m (atOf s k) (atOf s (k + 1))).rows = (nx s k : Int) ∧ (matRows m (atOf s k) (atOf s (k + 1))).cols = m.cols := by
  obtain ⟨R, K, xs, rfl, hR, hK, hl, he⟩ := mat_form h
  have h1 := atOf_le s (k + 1)
  have h2 : atOf s (k + 1) = atOf s k + nx s k := rfl
  have hs' : s.sum = R := by dsimp only at hs; omega
  rw [rows_upto (show atOf s k ≤ atOf s (k + 1) by omega) (by omega) hl]
  refine ⟨?_, ?_, rfl⟩
  · refine matFault_zero (by omega) hK (upto_length _ _) (inEnds_upto fun j hj => he _ ?_)
    have h3 : atOf s k * K + (atOf s (k + 1) - atOf s k) * K = atOf s (k + 1) * K := by rw [← Nat.add_mul]; congr 1; omega
    have h4 : atOf s (k + 1) * K ≤ R * K := Nat.mul_le_mul_right K (by omega)
    omega
  · dsimp only
    omega
/-- what is learned: layers, speeds, and how many steps were made -/
structure Sta where
  N : List Lay
  V : List Grd
  steps : Int
def stPart (l : Lay) (v : Grd) : Int := if l.fault ≠ 0 then l.fault else if v.W.fault ≠ 0 then v.W.fault else if v.B.fault ≠ 0 then v.B.fault else if likeShape v.W l.W ∧ likeShape v.B l.B then 0 else 2
theorem stPart_ok {l : Lay} {v : Grd} (h : stPart l v = 0) : l.fault = 0 ∧ gradFits l v := by
  unfold stPart at h
  by_cases h1 : l.fault = 0
  · rw [if_neg (by simp [h1])] at h
    by_cases h2 : v.W.fault = 0
    · rw [if_neg (by simp [h2])] at h
      by_cases h3 : v.B.fault = 0
      · rw [if_neg (by simp [h3])] at h
        by_cases h4 : likeShape v.W l.W ∧ likeShape v.B l.B
        · exact ⟨h1, h2, h3, h4.1, h4.2⟩
        · rw [if_neg h4] at h; exact absurd h (by decide)
      · rw [if_pos h3] at h; exact absurd h h3
    · rw [if_pos h2] at h; exact absurd h h2
  · rw [if_pos h1] at h; exact absurd h h1
theorem stPart_zero {l : Lay} {v : Grd} (h1 : l.fault = 0) (h2 : gradFits l v) : stPart l v = 0 := by
  unfold stPart
  rw [if_neg (by simp [h1]), if_neg (by simp [h2.1]), if_neg (by simp [h2.2.1]), if_pos h2.2.2]
def stTo (ls : List Lay) (vs : List Grd) : Nat → Int
  | 0 => 0
  | k + 1 => if stTo ls vs k = 0 then stPart (lx ls k) (gx vs k) else stTo ls vs k
theorem stTo_next {ls : List Lay} {vs : List Grd} {k : Nat} (h : stTo ls vs k = 0) : stTo ls vs (k + 1) = stPart (lx ls k) (gx vs k) := if_pos h
theorem stTo_stays {ls : List Lay} {vs : List Grd} {k m : Nat} (h : k ≤ m) (hk : stTo ls vs k ≠ 0) : stTo ls vs m = stTo ls vs k := by
  induction m with
  | zero => obtain rfl : k = 0 := by omega
            rfl
  | succ m ih =>
    rcases Nat.lt_or_ge k (m + 1) with h1 | h1
    · have e := ih (by omega)
      show (if stTo ls vs m = 0 then _ else _) = _
      rw [if_neg (by rw [e]; exact hk), e]
    · obtain rfl : k = m + 1 := by omega
      rfl
theorem stTo_all {ls : List Lay} {vs : List Grd} : ∀ {n : Nat}, stTo ls vs n = 0 → ∀ k, k < n → stPart (lx ls k) (gx vs k) = 0
  | 0, _, k, hk => absurd hk (Nat.not_lt_zero _)
  | n + 1, h, k, hk => by
    have h0 : stTo ls vs n = 0 := Classical.byContradiction fun hne => hne ((stTo_stays (Nat.le_succ n) hne).symm.trans h)
    rcases Nat.lt_or_ge k n with h1 | h1
    · exact stTo_all h0 k h1
    · obtain rfl : k = n := by omega
      rw [stTo_next h0] at h
      exact h
theorem stTo_zero {ls : List Lay} {vs : List Grd} : ∀ {n : Nat}, (∀ k, k < n → stPart (lx ls k) (gx vs k) = 0) → stTo ls vs n = 0
  | 0, _ => rfl
  | n + 1, h => by rw [stTo_next (stTo_zero fun k hk => h k (by omega))]; exact h n (by omega)
def Sta.fault (s : Sta) : Int := if 12 < s.N.length then 3 else if s.V.length ≠ s.N.length then 2 else if s.steps < 0 ∨ 1000000000 < s.steps then 1 else stTo s.N s.V s.N.length
theorem Sta.fault_ok {s : Sta} (h : s.fault = 0) : s.N.length ≤ 12 ∧ 0 ≤ s.steps ∧ s.steps ≤ 1000000000 ∧ (∀ k, k < s.N.length → (lx s.N k).fault = 0) ∧ listFits s.N s.V := by
  unfold Sta.fault at h
  by_cases h1 : 12 < s.N.length
  · rw [if_pos h1] at h; exact absurd h (by decide)
  rw [if_neg h1] at h
  by_cases h2 : s.V.length ≠ s.N.length
  · rw [if_pos h2] at h; exact absurd h (by decide)
  rw [if_neg h2] at h
  by_cases h3 : s.steps < 0 ∨ 1000000000 < s.steps
  · rw [if_pos h3] at h; exact absurd h (by decide)
  rw [if_neg h3] at h
  have h4 := stTo_all h
  exact ⟨by omega, by omega, by omega, fun k hk => (stPart_ok (h4 k hk)).1, by omega, fun k hk => (stPart_ok (h4 k hk)).2⟩
section
variable (N : List Lay) (b : Bat) (S : List Nat)
/-- how far a part is off, what goes back of it, by how much it turns -/
def partOff (d : Bat) : Int := lossOf (midOf N d.I) d.W
def partBack (d : Bat) : Mat := lossBack (midOf N d.I) d.W
def partTurn (d : Bat) : List Grd := bDs N (sawOne N d.I) (partBack N d) N.length
/-- all parts' turns together, and how far all are off -/
def byTo : Nat → List Grd
  | 0 => zeroNet N
  | k + 1 => gatherTo (byTo k) (partTurn N (partOf b S k)) (byTo k).length
def offTo : Nat → Int
  | 0 => 0
  | k + 1 => add (offTo k) (partOff N (partOf b S k))
end
/-- the sizes of the parts -/
def sizesIn (b : Bat) (p : Int) : List Nat := sizesOf b.I.rows.toNat p.toNat
/-- what is wrong with a step of all parts -/
def oneFault (s : Sta) (b : Bat) (p ln kp : Int) : Int :=
  if s.fault ≠ 0 then s.fault else if splitFault b p ≠ 0 then splitFault b p else if netWideFault s.N b.I.cols ≠ 0 then netWideFault s.N b.I.cols else if netW s.N b.I.cols s.N.length ≠ b.W.cols then 2
  else if 12 < nx (sizesIn b p) 0 then 1 else if ln < 0 ∨ 256 < ln ∨ kp < 0 ∨ 256 < kp then 1 else 0
def oneOf (s : Sta) (b : Bat) (p ln kp : Int) : Sta :=
  ⟨stepLays s.N s.V (byTo s.N b (sizesIn b p) p.toNat) ln kp s.N.length, stepGrds s.N s.V (byTo s.N b (sizesIn b p) p.toNat) kp s.N.length, s.steps + 1⟩
def oneOff (s : Sta) (b : Bat) (p : Int) : Int := offTo s.N b (sizesIn b p) p.toNat
theorem nx_falls {left rows : Nat} : ∀ k, k < left → nx (sizesOf rows left) k ≤ nx (sizesOf rows left) 0
  | 0, _ => Nat.le_refl _
  | k + 1, h => Nat.le_trans (sizesOf_falls left rows k (by omega)) (nx_falls k (by omega))
theorem nx_pos {left rows k : Nat} (h : left ≤ rows) (hk : k < left) : 1 ≤ nx (sizesOf rows left) k := by
  have hl : k < (sizesOf rows left).length := by rw [sizesOf_length]; exact hk
  unfold nx
  rw [List.getElem?_eq_getElem hl]
  exact sizesOf_pos left rows h _ (List.getElem_mem hl)
/-- what holds of each part, where nothing is wrong -/
structure PartOk (N : List Lay) (d : Bat) : Prop where
  I : d.I.fault = 0
  W : d.W.fault = 0
  rows : d.I.rows = d.W.rows ∧ 1 ≤ d.I.rows ∧ d.I.rows ≤ 12
  go : netGoFault N d.I = 0
  loss : lossFault (midOf N d.I) d.W = 0
  back : netBackFault N (sawOne N d.I) (partBack N d) = 0
  turn : listFits N (partTurn N d)
theorem part_ok {N : List Lay} {d : Bat} (h12 : N.length ≤ 12) (hI : d.I.fault = 0) (hW : d.W.fault = 0) (hr : d.I.rows = d.W.rows) (h1 : 1 ≤ d.I.rows) (hr12 : d.I.rows ≤ 12) (hw : wideTo N d.I.cols N.length = 0) (hc : netW N d.I.cols N.length = d.W.cols) : PartOk N d := by
  obtain ⟨g1, g2, g3⟩ := go_wide (n := N) hI hw
  have hm : (midOf N d.I).fault = 0 := netTo_fault hI g1
  have hrow : ∀ k, k ≤ N.length → (netTo N d.I k).rows = d.I.rows := fun k hk => (go_wide (n := N) hI (wideTo_less hk hw)).2.2
  have hb : (partBack N d).fault = 0 := lossBack_fault hm
  have hbr : (partBack N d).rows = d.I.rows := g3
  have hbc : (partBack N d).cols = (netTo N d.I N.length).cols := rfl
  obtain ⟨q1, _⟩ := backs_ok g1 hb hbr hbc hr12 hrow N.length (Nat.le_refl _)
  refine ⟨hI, hW, ⟨hr, h1, hr12⟩, ?_, lossFault_zero hm hW (g3.trans hr) (g2.trans hc), netBackFault_zero h12 (netOuts_length _ _ _) hb q1, bDs_fits g1 hb hbr hbc hr12 hrow⟩
  unfold netGoFault
  rw [if_neg (by omega), if_neg (by simp [hI])]
  exact g1
theorem oneFault_ok {s : Sta} {b : Bat} {p ln kp : Int} (h : oneFault s b p ln kp = 0) :
    s.fault = 0 ∧ splitFault b p = 0 ∧ netWideFault s.N b.I.cols = 0 ∧ netW s.N b.I.cols s.N.length = b.W.cols ∧ nx (sizesIn b p) 0 ≤ 12 ∧ 0 ≤ ln ∧ ln ≤ 256 ∧ 0 ≤ kp ∧ kp ≤ 256 := by
  unfold oneFault at h
  by_cases h1 : s.fault = 0
  · rw [if_neg (by simp [h1])] at h
    by_cases h2 : splitFault b p = 0
    · rw [if_neg (by simp [h2])] at h
      by_cases h3 : netWideFault s.N b.I.cols = 0
      · rw [if_neg (by simp [h3])] at h
        by_cases h4 : netW s.N b.I.cols s.N.length = b.W.cols
        · rw [if_neg (by simp [h4])] at h
          by_cases h5 : 12 < nx (sizesIn b p) 0
          · rw [if_pos h5] at h; exact absurd h (by decide)
          · rw [if_neg h5] at h
            by_cases h6 : ln < 0 ∨ 256 < ln ∨ kp < 0 ∨ 256 < kp
            · rw [if_pos h6] at h; exact absurd h (by decide)
            · exact ⟨h1, h2, h3, h4, by omega, by omega, by omega, by omega, by omega⟩
        · rw [if_pos h4] at h; exact absurd h (by decide)
      · rw [if_pos h3] at h; exact absurd h h3
    · rw [if_pos h2] at h; exact absurd h h2
  · rw [if_pos h1] at h; exact absurd h h1
theorem splitFault_ok {b : Bat} {p : Int} (h : splitFault b p = 0) : b.fault = 0 ∧ 1 ≤ p ∧ p ≤ 12 ∧ p ≤ b.I.rows ∧ b.I.rows ≤ 24 := by
  unfold splitFault at h
  by_cases h1 : b.fault = 0
  · rw [if_neg (by simp [h1])] at h
    obtain ⟨_, h2, h3, h4, h5⟩ := sizesFault_ok h
    exact ⟨h1, h3, h4, h5, h2⟩
  · rw [if_pos h1] at h; exact absurd h h1
theorem sizes_sum {b : Bat} {p : Int} (h : splitFault b p = 0) : ((sizesIn b p).sum : Int) = b.I.rows := by
  obtain ⟨_, h1, _, h2, _⟩ := splitFault_ok h
  unfold sizesIn
  rw [sizesOf_sum _ _ (by omega)]
  omega
/-- each part of a batch that can be learned from can be -/
theorem one_parts {s : Sta} {b : Bat} {p ln kp : Int} (h : oneFault s b p ln kp = 0) : ∀ k, k < p.toNat → PartOk s.N (partOf b (sizesIn b p) k) := by
  obtain ⟨h1, h2, h3, h4, h5, _⟩ := oneFault_ok h
  obtain ⟨f1, _⟩ := Sta.fault_ok h1
  obtain ⟨b1, p1, p2, p3, p4⟩ := splitFault_ok h2
  obtain ⟨i1, i2, i3, i4⟩ := Bat.fault_ok b1
  have hsum := sizes_sum h2
  have hw : wideTo s.N b.I.cols s.N.length = 0 := by
    unfold netWideFault at h3
    rw [if_neg (by omega)] at h3
    by_cases hq : s.N.length = 0 ∧ (b.I.cols < 0 ∨ 12 < b.I.cols)
    · rw [if_pos hq] at h3; exact absurd h3 (by decide)
    · rwa [if_neg hq] at h3
  intro k hk
  obtain ⟨a1, a2, a3⟩ := part_whole (k := k) i1 hsum
  obtain ⟨c1, c2, c3⟩ := part_whole (m := b.W) (k := k) i2 (hsum.trans i3)
  have hn1 : 1 ≤ nx (sizesIn b p) k := nx_pos (by omega) hk
  have hn2 : nx (sizesIn b p) k ≤ nx (sizesIn b p) 0 := nx_falls k hk
  refine part_ok f1 a1 c1 (a2.trans c2.symm) ?_ ?_ ?_ ?_
  · show 1 ≤ (matRows b.I (atOf (sizesIn b p) k) (atOf (sizesIn b p) (k + 1))).rows
    rw [a2]; omega
  · show (matRows b.I (atOf (sizesIn b p) k) (atOf (sizesIn b p) (k + 1))).rows ≤ 12
    rw [a2]; omega
  · show wideTo s.N (matRows b.I (atOf (sizesIn b p) k) (atOf (sizesIn b p) (k + 1))).cols s.N.length = 0
    rw [a3]; exact hw
  · show netW s.N (matRows b.I (atOf (sizesIn b p) k) (atOf (sizesIn b p) (k + 1))).cols s.N.length = (matRows b.W (atOf (sizesIn b p) k) (atOf (sizesIn b p) (k + 1))).cols
    rw [a3, c3]; exact h4
theorem byTo_fits {s : Sta} {b : Bat} {p ln kp : Int} (h : oneFault s b p ln kp = 0) : ∀ k, k ≤ p.toNat → listFits s.N (byTo s.N b (sizesIn b p) k)
  | 0, _ => zeros_fit (Sta.fault_ok (oneFault_ok h).1).2.2.2.1
  | k + 1, hk => (gather_fits (byTo_fits h k (by omega)) (one_parts h k (by omega)).turn).2
theorem byTo_gather {s : Sta} {b : Bat} {p ln kp : Int} (h : oneFault s b p ln kp = 0) {k : Nat} (hk : k < p.toNat) : gatherFault (byTo s.N b (sizesIn b p) k) (partTurn s.N (partOf b (sizesIn b p) k)) = 0 :=
  (gather_fits (byTo_fits h k (by omega)) (one_parts h k hk).turn).1
theorem one_step {s : Sta} {b : Bat} {p ln kp : Int} (h : oneFault s b p ln kp = 0) : stepFault s.N s.V (byTo s.N b (sizesIn b p) p.toNat) ln kp = 0 := by
  obtain ⟨h1, _, _, _, _, h6, h7, h8, h9⟩ := oneFault_ok h
  obtain ⟨f1, _, _, f4, f5, f6⟩ := Sta.fault_ok h1
  obtain ⟨g1, g2⟩ := byTo_fits h p.toNat (Nat.le_refl _)
  refine stepFault_none ⟨h6, h7, h8, h9⟩ f1 f5 g1 fun k hk => ?_
  obtain ⟨a1, a2, a3, a4⟩ := f6 k hk
  obtain ⟨c1, c2, c3, c4⟩ := g2 k hk
  exact fits_mk (f4 k hk) a1 a2 c1 c2 a3 a4 c3 c4
end Gal
end
