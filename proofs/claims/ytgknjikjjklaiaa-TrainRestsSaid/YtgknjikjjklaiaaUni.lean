/- Contracts for any matrices, with or without a fault. -/
import Derived.Test.YtgknjikjjklaiaaMat8
import Derived.Test.YtgknjikjjklaiaaJMat
set_option linter.unusedVariables false
set_option linter.unusedSimpArgs false
namespace Go.Proofs.Ytgknjikjjklaiaa
open Go.RowKit Gal

theorem none_at (w : World) : MatAt w (.agg #[.int .i64 0, .int .i64 0, .slice none 0 0]) Mat.none := (none_new 0 w).at
theorem matrices_eq (ma mb : Mat) (va vb : Value) (w : World) (ha : MatAt w va ma) (hb : MatAt w vb mb) (h : ma = mb) :
    Calls Try.prog 21 #[va, vb] w fun e w' => e = .returned (.bool true) ∧ Below w.heap.size w w' := by
  subst h
  exact (matrices_any ma ma va vb w ha hb).mono fun _ _ ⟨h, hb⟩ => ⟨by rw [h, decide_eq_true rfl], hb⟩
theorem matrices_same (ma : Mat) (va vb : Value) (w : World) (ha : MatAt w va ma) (hb : MatAt w vb ma) :
    Calls Try.prog 21 #[va, vb] w fun e w' => e = .returned (.bool true) ∧ Below w.heap.size w w' :=
  (matrices_any ma ma va vb w ha hb).mono fun _ _ ⟨h, hb⟩ => ⟨by rw [h, decide_eq_true rfl], hb⟩
theorem matMul_all (ma mb : Mat) (va vb : Value) (w : World) (ha : MatAt w va ma) (hb : MatAt w vb mb) :
    Calls Try.prog 78 #[va, vb] w fun e w' => ∃ v, e = .returned (.tuple #[v, errV (mulFault ma mb)]) ∧ MatAt w' v (orNone (mulFault ma mb) (matMul ma mb)) ∧ Below w.heap.size w w' := by
  by_cases hf : mulFault ma mb = 0
  · rw [orNone_ok hf, errV_nil hf]
    exact matMul_ok ma mb va vb w ha hb hf
  · rw [orNone_bad hf]
    exact (matMul_bad ma mb va vb w ha hb hf).mono fun _ _ ⟨h, hb⟩ => ⟨_, h, none_at _, hb⟩
theorem matTurn_all (ma : Mat) (va : Value) (w : World) (ha : MatAt w va ma) :
    Calls Try.prog 77 #[va] w fun e w' => ∃ v, e = .returned (.tuple #[v, errV (turnFault ma)]) ∧ MatAt w' v (orNone (turnFault ma) (matTurn ma)) ∧ Below w.heap.size w w' := by
  by_cases hf : turnFault ma = 0
  · rw [orNone_ok hf, errV_nil hf]
    exact matTurn_ok ma va w ha hf
  · rw [orNone_bad hf, errV_err hf]
    exact (matTurn_bad ma va w ha hf).mono fun _ _ ⟨h, hb⟩ => ⟨_, h, none_at _, hb⟩
theorem matRows_all (ma : Mat) (va : Value) (lo hi : Int) (w : World) (ha : MatAt w va ma) :
    Calls Try.prog 51 #[va, .int .i64 lo, .int .i64 hi] w fun e w' => ∃ v, e = .returned (.tuple #[v, errV (rowsFault ma lo hi)]) ∧ MatAt w' v (orNone (rowsFault ma lo hi) (matRows ma lo hi)) ∧ Below w.heap.size w w' := by
  by_cases hf : rowsFault ma lo hi = 0
  · rw [orNone_ok hf, errV_nil hf]
    exact matRows_ok ma va lo hi w ha hf
  · rw [orNone_bad hf, errV_err hf]
    exact (matRows_bad ma va lo hi w ha hf).mono fun _ _ ⟨h, hb⟩ => ⟨_, h, none_at _, hb⟩
theorem fault_form {m : Mat} (h : m.fault = 0) : ∃ (R K : Nat) (xs : List Int), m = ⟨R, K, xs⟩ ∧ R ≤ 24 ∧ K ≤ 12 ∧ xs.length = R * K ∧ inEnds xs := by
  obtain ⟨R, K, eR, eK, hR, hK, hl, he⟩ := matFault_ok h
  obtain ⟨r, c, xs⟩ := m
  dsimp only at eR eK hl he
  subst eR eK
  exact ⟨R, K, xs, rfl, hR, hK, hl, he⟩
end Go.Proofs.Ytgknjikjjklaiaa
