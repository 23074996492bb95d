/- Contracts for any matrices, with or without a fault. -/
import Derived.Test.YtikcdjibflleeaaDoorMat8
import Derived.Test.YtikcdjibflleeaaDoorMat7
import Derived.Test.YtikcdjibflleeaaDoorTold
import Derived.Test.YtikcdjibflleeaaDoorJRef
import Derived.Test.YtikcdjibflleeaaDoorJMat
set_option linter.unusedVariables false
set_option linter.unusedSimpArgs false
namespace Go.Proofs.YtikcdjibflleeaaDoor
open Go.RowKit Gal

theorem none_at (w : World) : MatAt w (.agg #[.int .i64 0, .int .i64 0, .slice none 0 0]) Mat.none := (none_new 0 w).at
theorem error_same (k : Int) (w : World) (hg : Handle w) : Calls Tryd.prog 10 #[errV k, .int .i64 k] w fun r w' => r = .returned (.bool true) ∧ Below w.heap.size w w' :=
  (error_any k k w hg).mono fun _ _ ⟨h, hb⟩ => ⟨by rw [h, decide_eq_true rfl], hb⟩
theorem error_eq (k e : Int) (w : World) (hg : Handle w) (h : k = e) : Calls Tryd.prog 10 #[errV k, .int .i64 e] w fun r w' => r = .returned (.bool true) ∧ Below w.heap.size w w' := by
  subst h
  exact error_same k w hg
theorem matrices_eq (ma mb : Mat) (va vb : Value) (w : World) (ha : MatAt w va ma) (hb : MatAt w vb mb) (h : ma = mb) :
    Calls Tryd.prog 11 #[va, vb] w fun e w' => e = .returned (.bool true) ∧ Below w.heap.size w w' := by
  subst h
  exact (matrices_any ma ma va vb w ha hb).mono fun _ _ ⟨h, hb⟩ => ⟨by rw [h, decide_eq_true rfl], hb⟩
theorem matrices_same (ma : Mat) (va vb : Value) (w : World) (ha : MatAt w va ma) (hb : MatAt w vb ma) :
    Calls Tryd.prog 11 #[va, vb] w fun e w' => e = .returned (.bool true) ∧ Below w.heap.size w w' :=
  (matrices_any ma ma va vb w ha hb).mono fun _ _ ⟨h, hb⟩ => ⟨by rw [h, decide_eq_true rfl], hb⟩
theorem matMul_all (ma mb : Mat) (va vb : Value) (w : World) (ha : MatAt w va ma) (hb : MatAt w vb mb) :
    Calls Tryd.prog 102 #[va, vb] w fun e w' => ∃ v, e = .returned (.tuple #[v, errV (mulFault ma mb)]) ∧ MatAt w' v (orNone (mulFault ma mb) (matMul ma mb)) ∧ Below w.heap.size w w' := by
  by_cases hf : mulFault ma mb = 0
  · rw [orNone_ok hf, errV_nil hf]
    exact matMul_ok ma mb va vb w ha hb hf
  · rw [orNone_bad hf]
    exact (matMul_bad ma mb va vb w ha hb hf).mono fun _ _ ⟨h, hb⟩ => ⟨_, h, none_at _, hb⟩
theorem matTurn_all (ma : Mat) (va : Value) (w : World) (ha : MatAt w va ma) :
    Calls Tryd.prog 101 #[va] w fun e w' => ∃ v, e = .returned (.tuple #[v, errV (turnFault ma)]) ∧ MatAt w' v (orNone (turnFault ma) (matTurn ma)) ∧ Below w.heap.size w w' := by
  by_cases hf : turnFault ma = 0
  · rw [orNone_ok hf, errV_nil hf]
    exact matTurn_ok ma va w ha hf
  · rw [orNone_bad hf, errV_err hf]
    exact (matTurn_bad ma va w ha hf).mono fun _ _ ⟨h, hb⟩ => ⟨_, h, none_at _, hb⟩
theorem fault_form {m : Mat} (h : m.fault = 0) : ∃ (R K : Nat) (xs : List Int), m = ⟨R, K, xs⟩ ∧ R ≤ 24 ∧ K ≤ 12 ∧ xs.length = R * K ∧ inEnds xs := by
  obtain ⟨R, K, eR, eK, hR, hK, hl, he⟩ := matFault_ok h
  obtain ⟨r, c, xs⟩ := m
  dsimp only at eR eK hl he
  subst eR eK
  exact ⟨R, K, xs, rfl, hR, hK, hl, he⟩
theorem refMatAdd_all (ma mb : Mat) (va vb : Value) (w : World) (ha : MatAt w va ma) (hb : MatAt w vb mb) (hf : lossFault ma mb = 0) :
    Calls Tryd.prog 30 #[va, vb] w fun e w' => ∃ v, e = .returned v ∧ MatNew w.heap.size w' v (matAdd ma mb) ∧ Below w.heap.size w w' := by
  obtain ⟨fa, fb, er, ec⟩ := lossFault_ok hf
  obtain ⟨R, K, xs, rfl, hR, hK, hla, _⟩ := fault_form fa
  obtain ⟨R', K', ys, rfl, _, _, hlb, _⟩ := fault_form fb
  dsimp only at er ec
  obtain rfl : R = R' := by omega
  obtain rfl : K = K' := by omega
  have := refMatAdd_any R K hR hK xs ys va vb w ha hb hla hlb
  unfold matAdd
  rw [hla]
  exact this
theorem refMatMul_all (ma mb : Mat) (va vb : Value) (w : World) (ha : MatAt w va ma) (hb : MatAt w vb mb) (hf : mulFault ma mb = 0) :
    Calls Tryd.prog 64 #[va, vb] w fun e w' => ∃ v, e = .returned v ∧ MatNew w.heap.size w' v (matMul ma mb) ∧ Below w.heap.size w w' := by
  obtain ⟨hc, hcr⟩ := mulFault_ok hf
  obtain ⟨fa, fb⟩ := firstFault_two.1 hc
  obtain ⟨R, K, xs, rfl, hR, hK, hla, _⟩ := fault_form fa
  obtain ⟨R', K', ys, rfl, hR', hK', hlb, _⟩ := fault_form fb
  dsimp only at hcr
  obtain rfl : K = R' := by omega
  exact refMatMul_any R K K' hR hR' hK' xs ys va vb w ha hb hla hlb (Nat.mul_le_mul hR hK) (Nat.mul_le_mul hR' hK')
theorem refMatTurn_all (ma : Mat) (va : Value) (w : World) (ha : MatAt w va ma) (hf : ma.fault = 0) :
    Calls Tryd.prog 63 #[va] w fun e w' => ∃ v, e = .returned v ∧ MatNew w.heap.size w' v (matTurn ma) ∧ Below w.heap.size w w' := by
  obtain ⟨R, K, xs, rfl, hR, hK, hla, _⟩ := fault_form hf
  exact refMatTurn_any R K hR hK xs va w ha hla
theorem refMatTimes_all (ma : Mat) (x : Int) (va : Value) (w : World) (ha : MatAt w va ma) (hf : ma.fault = 0) :
    Calls Tryd.prog 54 #[va, .int .i64 x] w fun e w' => ∃ v, e = .returned v ∧ MatNew w.heap.size w' v (matTimes ma x) ∧ Below w.heap.size w w' := by
  obtain ⟨R, K, xs, rfl, hR, hK, hla, _⟩ := fault_form hf
  have := refMatTimes_any R K hR hK xs x va w ha hla
  unfold matTimes
  rw [hla]
  exact this
theorem refMatSums_all (ma : Mat) (va : Value) (w : World) (ha : MatAt w va ma) (hf : ma.fault = 0) :
    Calls Tryd.prog 65 #[va] w fun e w' => ∃ v, e = .returned v ∧ MatNew w.heap.size w' v (matSums ma) ∧ Below w.heap.size w w' := by
  obtain ⟨R, K, xs, rfl, hR, hK, hla, _⟩ := fault_form hf
  exact refMatSums_any R K hR hK xs va w ha hla
end Go.Proofs.YtikcdjibflleeaaDoor
