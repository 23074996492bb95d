/- Contracts of the reference's Blank and of the laws' matFact. -/
import Derived.Test.YtikcdjibflleeaaDoorMat5
import Derived.Test.YtikcdjibflleeaaDoorSame
set_option linter.unusedVariables false
set_option linter.unusedSimpArgs false
namespace Go.Proofs.YtikcdjibflleeaaDoor
open Go.RowKit Gal

theorem ints_box {w : World} {b : Nat} {xs : List Int} {t : TypeId} (h : Box w b (xs.map (Value.int .i64)) t) (hl : xs.length ≤ maxLen) : IntsAt w (some ⟨b, 0, none⟩) xs.length xs.length b 0 xs := by
  refine ⟨rfl, Nat.le_refl _, hl, fun _ => rfl, fun _ => h.lt, fun i hi => ?_⟩
  rw [Nat.zero_add, h.cell]
  unfold ix
  rw [List.getElem?_map, List.getElem?_eq_getElem hi]
  rfl

set_option maxRecDepth 100000 in
set_option maxHeartbeats 1000000 in
theorem blank_any (R C : Nat) (hR : R ≤ 24) (hC : C ≤ 24) (w : World) :
    Calls Tryd.prog 48 #[.int .i64 R, .int .i64 C] w fun e w' =>
      ∃ b, e = .returned (.agg #[.int .i64 R, .int .i64 C, .slice (some ⟨b, 0, none⟩) (R * C) (R * C)]) ∧ w.heap.size ≤ b ∧ Box w' b ((zeros (R * C)).map (Value.int .i64)) 3 ∧ Below w.heap.size w w' := by
  have hrc : R * C ≤ 576 := Nat.mul_le_mul hR hC
  have hrc' : (R : Int) * C ≤ 576 := by rw [← Int.natCast_mul]; omega
  have hrc0 : 0 ≤ (R : Int) * C := by rw [← Int.natCast_mul]; omega
  obtain ⟨i0, hi, hz0, hz1, hz2⟩ := info_parts info_int
  have hmk := fun W => run_make_rowN (P := Tryd.prog) 23 3 i0 _ Tryd.underlying23 hi hz0 .i64 .i64 (R * C) (R * C) ((R : Int) * C) ((R : Int) * C) (by rw [Int.natCast_mul]) (by rw [Int.natCast_mul]) (Nat.le_refl _) (by rw [hz2]; omega) (by omega) W
  rw [hz1, Nat.mul_one] at hmk
  have hmc : (madeCells (Value.int .i64 0).cells (R * C)) = ((zeros (R * C)).map (Value.int .i64)).toArray := by
    apply Array.toList_inj.1
    show (madeCells #[Value.int .i64 0] (R * C)).toList = _
    rw [toList_madeCells_one]
    simp [zeros]
  rw [hmc] at hmk
  clear hmc
  go_enter Tryd.func48, Tryd.ntmps48
  go_wp2
  refine bodyPost_ret (v := .agg #[.int .i64 R, .int .i64 C, .slice (some ⟨w.heap.size + 1, 0, none⟩) (R * C) (R * C)]) (by simp [results, Tryd.results48, go_sem]) rfl ⟨w.heap.size + 1, rfl, by omega, ?_, (by repeat (first | fail | (with_reducible exact Below.refl _ _) | (with_reducible refine Below.al ?_ _) | (with_reducible refine Below.drN ?_ _) | (with_reducible refine Below.drew ?_) | (with_reducible refine Below.st ?_ ?_ _; rotate_left 1; (first | (dsimp only; omega) | omega | (simp; omega) | simp)) | exact Below.refl _ _))⟩
  exact Box.new' _ _ _ _ (by simp)

end Go.Proofs.YtikcdjibflleeaaDoor
