/- Texts joined: Uni. -/
import Derived.Test.YtgknjikjjklaiaaGreatDoorJ12
import Derived.Test.YtgknjikjjklaiaaGreatDoorJ13
import Derived.Test.YtgknjikjjklaiaaGreatDoorJ14
import Derived.Test.YtgknjikjjklaiaaGreatDoorJ16
import Derived.Test.YtgknjikjjklaiaaGreatDoorJ09
section
set_option linter.unusedVariables false
set_option linter.unusedSimpArgs false
namespace Go.Proofs.YtgknjikjjklaiaaGreatDoor
open Go.RowKit Gal
theorem error_same (k : Int) (w : World) (hg : Handle w) : Calls Tryz.prog 12 #[errV k, .int .i64 k] w fun r w' => r = .returned (.bool true) ∧ Below w.heap.size w w' :=
 (error_any k k w hg).mono fun _ _ ⟨h, hb⟩ => ⟨by rw [h, decide_eq_true rfl], hb⟩
theorem fault_form {m : Mat} (h : m.fault = 0) : ∃ (R K : Nat) (xs : List Int), m = ⟨R, K, xs⟩ ∧ R ≤ 24 ∧ K ≤ 12 ∧ xs.length = R * K ∧ inEnds xs := by
 obtain ⟨R, K, eR, eK, hR, hK, hl, he⟩ := matFault_ok h
 obtain ⟨r, c, xs⟩ := m
 dsimp only at eR eK hl he
 subst eR eK
 exact ⟨R, K, xs, rfl, hR, hK, hl, he⟩
theorem refMatMul_all (ma mb : Mat) (va vb : Value) (w : World) (ha : MatAt w va ma) (hb : MatAt w vb mb) (hf : mulFault ma mb = 0) :
  Calls Tryz.prog 66 #[va, vb] w fun e w' => ∃ v, e = .returned v ∧ MatNew w.heap.size w' v (matMul ma mb) ∧ Below w.heap.size w w' := by
 obtain ⟨hc, hcr⟩ := mulFault_ok hf
 obtain ⟨fa, fb⟩ := firstFault_two.1 hc
 obtain ⟨R, K, xs, rfl, hR, hK, hla, _⟩ := fault_form fa
 obtain ⟨R', K', ys, rfl, hR', hK', hlb, _⟩ := fault_form fb
 dsimp only at hcr
 obtain rfl : K = R' := by omega
 exact refMatMul_any R K K' hR hR' hK' xs ys va vb w ha hb hla hlb (Nat.mul_le_mul hR hK) (Nat.mul_le_mul hR' hK')
theorem refMatTurn_all (ma : Mat) (va : Value) (w : World) (ha : MatAt w va ma) (hf : ma.fault = 0) :
  Calls Tryz.prog 69 #[va] w fun e w' => ∃ v, e = .returned v ∧ MatNew w.heap.size w' v (matTurn ma) ∧ Below w.heap.size w w' := by
 obtain ⟨R, K, xs, rfl, hR, hK, hla, _⟩ := fault_form hf
 exact refMatTurn_any R K hR hK xs va w ha hla
theorem refMatTimes_all (ma : Mat) (x : Int) (va : Value) (w : World) (ha : MatAt w va ma) (hf : ma.fault = 0) :
  Calls Tryz.prog 67 #[va, .int .i64 x] w fun e w' => ∃ v, e = .returned v ∧ MatNew w.heap.size w' v (matTimes ma x) ∧ Below w.heap.size w w' := by
 obtain ⟨R, K, xs, rfl, hR, hK, hla, _⟩ := fault_form hf
 have := refMatTimes_any R K hR hK xs x va w ha hla
 unfold matTimes
 rw [hla]
 exact this
theorem refMatSums_all (ma : Mat) (va : Value) (w : World) (ha : MatAt w va ma) (hf : ma.fault = 0) :
  Calls Tryz.prog 70 #[va] w fun e w' => ∃ v, e = .returned v ∧ MatNew w.heap.size w' v (matSums ma) ∧ Below w.heap.size w w' := by
 obtain ⟨R, K, xs, rfl, hR, hK, hla, _⟩ := fault_form hf
 exact refMatSums_any R K hR hK xs va w ha hla
theorem refLossOf_all (ma mb : Mat) (va vb : Value) (w : World) (ha : MatAt w va ma) (hb : MatAt w vb mb) (hf : lossFault ma mb = 0) :
  Calls Tryz.prog 9 #[va, vb] w fun e w' => ∃ v, e = .returned (.tuple #[.int .i64 (lossOf ma mb), v]) ∧ MatNew w.heap.size w' v (lossBack ma mb) ∧ Below w.heap.size w w' := by
 obtain ⟨fa, fb, er, ec⟩ := lossFault_ok hf
 obtain ⟨R, K, xs, rfl, hR, hK, hla, _⟩ := fault_form fa
 obtain ⟨R', K', ys, rfl, _, _, hlb, _⟩ := fault_form fb
 dsimp only at er ec
 obtain rfl : R = R' := by omega
 obtain rfl : K = K' := by omega
 exact refLossOf_any R K hR hK xs ys va vb w ha hb hla hlb
end Go.Proofs.YtgknjikjjklaiaaGreatDoor
end
