/- Contract of mat.Stack, of any matrices of which there are not too many. -/
import Derived.Test.YtikcdjibflleeaaDoorMat7
import Derived.Test.YtikcdjibflleeaaDoorMat8
set_option linter.unusedVariables false
set_option linter.unusedSimpArgs false
set_option linter.unusedSectionVars false
namespace Go.Proofs.YtikcdjibflleeaaDoor
open Go.RowKit Gal
set_option maxRecDepth 100000
set_option maxHeartbeats 1000000
theorem matStack_all (a : Option Addr) (n cap b off : Nat) (ms : List Mat) (w : World) (hm : MatsAt w a n cap b off ms) (hn : n ≤ 1048576) :
    Calls Tryd.prog 8 #[.slice a n cap] w fun e w' => ∃ v, e = .returned (.tuple #[v, errV (stackFault ms)]) ∧ MatNew w.heap.size w' v (orNone (stackFault ms) (matStack ms)) ∧ Below w.heap.size w w' := by
  have hl := hm.len
  have hmx := hm.max
  unfold maxLen at hmx
  by_cases hff : firstFault ms = 0
  · by_cases h0 : 0 < n
    · refine (matStack_any a n cap b off ms w hm hn hff h0).mono ?_
      rintro e w' ⟨h1, h2, hb⟩
      by_cases hs : stackFault ms = 0
      · obtain ⟨v, rfl, hv⟩ := h1 hs
        exact ⟨v, by rw [errV_nil hs], by rw [orNone_ok hs]; exact hv, hb⟩
      · rw [h2 hs]
        refine ⟨_, by rw [errV_err hs], ?_, hb⟩
        unfold orNone
        rw [if_neg hs]
        exact none_new _ _
    · obtain rfl : n = 0 := by omega
      have hs : stackFault ms = 2 := by unfold stackFault; rw [if_neg (by simp [hff]), if_pos hl]
      have HS := Lib.hid hs
      have hE : errV (firstFault ms) = .nilIface := errV_nil hff
      have HM := Lib.hid hm
      rw [hs, errV_err (by decide)]
      unfold orNone
      rw [if_neg (by decide)]
      clear hff hs hm h0 hmx hn hl
      go_enter Tryd.func8, Tryd.ntmps8
      go_wp2_with fail
      refine (check_any _ _ _ _ _ ms _ (HM.out.keep ((Below.refl w.heap.size w).alloc (Nat.le_refl _) _))).mono ?_
      rw [hE]
      rintro e w1 ⟨rfl, hb1⟩
      have B0 := (Box.new w [.int .i64 0, .int .i64 0, .slice none 0 0] 25).keep hb1
      have B0c := B0.cell
      have B0f := B0.thawed
      have B0z := B0.lt
      have B0k := lt_add B0z
      go_wp2
      refine bodyPost_ret (v := .tuple #[.agg #[.int .i64 0, .int .i64 0, .slice none 0 0], .iface 30 (.int .i64 2)]) (by simp [results, Tryd.results8, go_sem, B0c, B0z]) rfl ⟨_, rfl, none_new _ _, (by repeat (first | fail | (with_reducible exact Below.refl _ _) | (with_reducible refine Below.al ?_ _) | (with_reducible refine Below.drN ?_ _) | (with_reducible refine Below.drew ?_) | (with_reducible refine Below.st ?_ ?_ _; rotate_left 1; (first | (dsimp only; omega) | omega | (simp; omega) | simp)) | (with_reducible refine Below.go ?_ hb1) | exact Below.refl _ _))⟩
  · have hs : stackFault ms = firstFault ms := by unfold stackFault; rw [if_pos hff]
    have hE : errV (firstFault ms) = .iface 30 (.int .i64 (firstFault ms)) := errV_err hff
    have HM := Lib.hid hm
    rw [hs, hE]
    unfold orNone
    rw [if_neg hff]
    clear hff hs hm hmx hn hl
    go_enter Tryd.func8, Tryd.ntmps8
    go_wp2_with fail
    refine (check_any _ _ _ _ _ ms _ (HM.out.keep ((Below.refl w.heap.size w).alloc (Nat.le_refl _) _))).mono ?_
    rw [hE]
    rintro e w1 ⟨rfl, hb1⟩
    have B0 := (Box.new w [.int .i64 0, .int .i64 0, .slice none 0 0] 25).keep hb1
    have B0c := B0.cell
    have B0f := B0.thawed
    have B0z := B0.lt
    have B0k := lt_add B0z
    go_wp2
    refine bodyPost_ret (v := .tuple #[.agg #[.int .i64 0, .int .i64 0, .slice none 0 0], .iface 30 (.int .i64 (firstFault ms))]) (by simp [results, Tryd.results8, go_sem, B0c, B0z]) rfl ⟨_, rfl, none_new _ _, (by repeat (first | fail | (with_reducible exact Below.refl _ _) | (with_reducible refine Below.al ?_ _) | (with_reducible refine Below.drN ?_ _) | (with_reducible refine Below.drew ?_) | (with_reducible refine Below.st ?_ ?_ _; rotate_left 1; (first | (dsimp only; omega) | omega | (simp; omega) | simp)) | (with_reducible refine Below.go ?_ hb1) | exact Below.refl _ _))⟩
end Go.Proofs.YtikcdjibflleeaaDoor
