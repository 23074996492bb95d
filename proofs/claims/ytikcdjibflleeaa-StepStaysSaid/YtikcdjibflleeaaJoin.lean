/- Plain: what is cut into parts and joined is the same. -/
import Derived.Test.YtikcdjibflleeaaBatch5
set_option linter.unusedVariables false
set_option linter.unusedSimpArgs false
set_option linter.unusedSectionVars false
namespace Gal
open Go Go.RowKit
theorem ints_box2 {w : World} {b : Nat} {xs : List Int} {t : TypeId} (h : Box w b (xs.map (Value.int .i64)) t) (hl : xs.length ≤ maxLen) : IntsAt w (some ⟨b, 0, none⟩) xs.length xs.length b 0 xs := by
  refine ⟨rfl, Nat.le_refl _, hl, fun _ => rfl, fun _ => h.lt, fun i hi => ?_⟩
  rw [Nat.zero_add, h.cell]
  unfold ix
  rw [List.getElem?_map, List.getElem?_eq_getElem hi]
  rfl

/-- the parts of one matrix -/
def cuts (m : Mat) (s : List Nat) (P : Nat) : List Mat := (List.range P).map fun k => matRows m (atOf s k) (atOf s (k + 1))
theorem cuts_length (m : Mat) (s : List Nat) (P : Nat) : (cuts m s P).length = P := by simp [cuts]
theorem cuts_mx {m : Mat} {s : List Nat} {P k : Nat} (h : k < P) : mx (cuts m s P) k = matRows m (atOf s k) (atOf s (k + 1)) := by
  unfold mx cuts
  rw [List.getElem?_map, List.getElem?_eq_getElem (by simpa using h)]
  simp
theorem insTo_parts (d : Bat) (s : List Nat) (P : Nat) : insTo (partsTo d s P) P = cuts d.I s P := by
  unfold insTo cuts
  refine List.map_congr_left fun k hk => ?_
  rw [List.mem_range] at hk
  unfold bx partsTo
  rw [List.getElem?_map, List.getElem?_eq_getElem (by simpa using hk)]
  simp [partOf]
theorem wantsTo_parts (d : Bat) (s : List Nat) (P : Nat) : wantsTo (partsTo d s P) P = cuts d.W s P := by
  unfold wantsTo cuts
  refine List.map_congr_left fun k hk => ?_
  rw [List.mem_range] at hk
  unfold bx partsTo
  rw [List.getElem?_map, List.getElem?_eq_getElem (by simpa using hk)]
  simp [partOf]
theorem atOf_sum : ∀ (s : List Nat), atOf s s.length = s.sum
  | [] => rfl
  | x :: s => by rw [List.length_cons, atOf_cons, List.sum_cons, atOf_sum s]
section
variable {R K : Nat} {xs : List Int} {s : List Nat} {P : Nat} (hR : R ≤ 24) (hK : K ≤ 12) (hl : xs.length = R * K) (he : inEnds xs) (hs : s.length = P) (hsum : s.sum = R)
include hl hs hsum
theorem at_le (k : Nat) : atOf s k * K ≤ xs.length := by
  rw [hl]
  refine Nat.mul_le_mul_right K ?_
  rw [← hsum]
  exact atOf_le s k
theorem cut_cells (k : Nat) : (matRows ⟨R, K, xs⟩ (atOf s k) (atOf s (k + 1))).cells = (xs.take (atOf s (k + 1) * K)).drop (atOf s k * K) := by
  unfold matRows piece
  simp only [Int.toNat_natCast]
theorem cut_fault (hR : R ≤ 24) (hK : K ≤ 12) (he : inEnds xs) (k : Nat) : (matRows ⟨R, K, xs⟩ (atOf s k) (atOf s (k + 1))).fault = 0 := by
  have h1 : atOf s (k + 1) = atOf s k + nx s k := rfl
  have h2 := atOf_le s (k + 1)
  have h3 := at_le hl hs hsum (K := K) (k + 1)
  have hr : matRows ⟨R, K, xs⟩ (atOf s k) (atOf s (k + 1)) = ⟨(nx s k : Nat), K, (xs.take (atOf s (k + 1) * K)).drop (atOf s k * K)⟩ := by
    unfold matRows piece
    simp only [Int.toNat_natCast]
    congr 1
    omega
  rw [hr]
  refine matFault_zero (by omega) hK ?_ (inEnds_drop (inEnds_take he _) _)
  rw [List.length_drop, List.length_take, Nat.min_eq_left h3, h1, Nat.add_mul]
  omega
theorem cuts_rows (k : Nat) (hk : k ≤ P) : rowsTo (cuts ⟨R, K, xs⟩ s P) k = atOf s k := by
  induction k with
  | zero => rfl
  | succ k ih =>
    rw [rowsTo_succ, ih (by omega), cuts_mx (by omega)]
    have h1 : atOf s (k + 1) = atOf s k + nx s k := rfl
    show (atOf s k : Int) + ((atOf s (k + 1) : Int) - (atOf s k : Int)) = _
    omega
theorem cuts_cells (k : Nat) (hk : k ≤ P) : cellsTo (cuts ⟨R, K, xs⟩ s P) k = xs.take (atOf s k * K) := by
  induction k with
  | zero => simp [cellsTo, atOf]
  | succ k ih =>
    have h1 : atOf s (k + 1) = atOf s k + nx s k := rfl
    rw [cellsTo_succ, ih (by omega), cuts_mx (by omega), cut_cells hl hs hsum]
    have h2 : xs.take (atOf s k * K) = (xs.take (atOf s (k + 1) * K)).take (atOf s k * K) := by
      rw [List.take_take, Nat.min_eq_left (Nat.mul_le_mul_right K (by omega))]
    rw [h2, List.take_append_drop]
theorem cuts_fault (hR : R ≤ 24) (hK : K ≤ 12) (he : inEnds xs) (hP : 0 < P) : stackFault (cuts ⟨R, K, xs⟩ s P) = 0 := by
  have h1 : firstFault (cuts ⟨R, K, xs⟩ s P) = 0 := firstFault_none fun j hj => by
    rw [cuts_length] at hj
    rw [cuts_mx hj]
    exact cut_fault hl hs hsum hR hK he j
  unfold stackFault
  rw [if_neg (by rw [h1]; omega), if_neg (by rw [cuts_length]; omega), if_neg, if_neg]
  · rw [cuts_length, cuts_rows hl hs hsum P (Nat.le_refl _)]
    have := atOf_le s P
    omega
  · intro h
    apply h
    intro j hj
    rw [cuts_length] at hj
    rw [cuts_mx hj, cuts_mx hP]
    rfl
theorem cuts_back (hP : 0 < P) : matStack (cuts ⟨R, K, xs⟩ s P) = ⟨R, K, xs⟩ := by
  unfold matStack
  rw [cuts_length, cuts_rows hl hs hsum P (Nat.le_refl _), cuts_cells hl hs hsum P (Nat.le_refl _), cuts_mx hP]
  have h1 : atOf s P = R := by rw [← hsum, ← atOf_sum, hs]
  rw [h1, ← hl, List.take_length]
  rfl
end
theorem fault_parts {m : Mat} (h : m.fault = 0) : ∃ (R K : Nat) (xs : List Int), m = ⟨R, K, xs⟩ ∧ R ≤ 24 ∧ K ≤ 12 ∧ xs.length = R * K ∧ inEnds xs := by
  obtain ⟨R, K, eR, eK, hR, hK, hl, he⟩ := matFault_ok h
  obtain ⟨r, c, xs⟩ := m
  dsimp only at eR eK hl he
  subst eR eK
  exact ⟨R, K, xs, rfl, hR, hK, hl, he⟩
/-- a batch cut into parts, and joined -/
theorem parts_join {d : Bat} {s : List Nat} {P : Nat} (hd : d.fault = 0) (hs : s.length = P) (hsum : s.sum = d.I.rows.toNat) (hP : 0 < P) (hpos : ∀ k, k < P → 1 ≤ nx s k) :
    (∀ i, i < P → (bx (partsTo d s P) i).fault = 0) ∧ stackFault (insTo (partsTo d s P) P) = 0 ∧ stackFault (wantsTo (partsTo d s P) P) = 0 ∧ (⟨matStack (insTo (partsTo d s P) P), matStack (wantsTo (partsTo d s P) P)⟩ : Bat) = d := by
  obtain ⟨f1, f2, f3, f4⟩ := Bat.fault_ok hd
  obtain ⟨I, W⟩ := d
  dsimp only at f1 f2 f3 f4 hsum ⊢
  obtain ⟨R, K, xs, e1, hR, hK, hl, he⟩ := fault_parts f1
  obtain ⟨R', K', xs', e2, hR', hK', hl', he'⟩ := fault_parts f2
  subst e1
  subst e2
  dsimp only at f3 f4 hsum
  have hRR : R = R' := by omega
  subst hRR
  have hsum' : s.sum = R := by omega
  rw [insTo_parts, wantsTo_parts]
  refine ⟨fun i hi => ?_, cuts_fault hl hs hsum' hR hK he hP, cuts_fault hl' hs hsum' hR hK' he' hP, ?_⟩
  · have hb : bx (partsTo ⟨⟨R, K, xs⟩, ⟨R, K', xs'⟩⟩ s P) i = partOf ⟨⟨R, K, xs⟩, ⟨R, K', xs'⟩⟩ s i := by
      unfold bx partsTo
      rw [List.getElem?_map, List.getElem?_eq_getElem (by simpa using hi)]
      simp
    rw [hb]
    unfold Bat.fault partOf
    dsimp only
    rw [if_neg (by rw [cut_fault hl hs hsum' hR hK he i]; omega), if_neg (by rw [cut_fault hl' hs hsum' hR hK' he' i]; omega), if_neg]
    have h1 : atOf s (i + 1) = atOf s i + nx s i := rfl
    have h2 := hpos i hi
    rintro (h | h)
    · exact h rfl
    · have : ((atOf s (i + 1) : Int) - (atOf s i : Int)) < 1 := h
      omega
  · show (⟨matStack (cuts ⟨R, K, xs⟩ s P), matStack (cuts ⟨R, K', xs'⟩ s P)⟩ : Bat) = _
    rw [cuts_back hl hs hsum' hP, cuts_back hl' hs hsum' hP]
end Gal
