/- Contract of the laws' layerFact. -/
import Derived.Test.YtlfeijffjpjnnaaLay12
import Derived.Test.YtlfeijffjpjnnaaPLaws
import Derived.Test.YtlfeijffjpjnnaaSame
import Derived.BigQuiet
import Derived.IntWalk
import Derived.RegionTactic
set_option linter.unusedVariables false
set_option linter.unusedSimpArgs false
namespace Gal
open Go Go.RowKit
def factL : Lay := ⟨1, ⟨2, 2, [256, 0, 0, 512]⟩, ⟨1, 2, [1, 2]⟩⟩
def factX : Mat := ⟨1, 2, [3, 4]⟩
theorem fact_fault : factL.goFault factX = 0 := by decide +kernel
theorem fact_go : factL.go factX = ⟨1, 2, [4, 10]⟩ := by
  have h : (factL.go factX).cells = [4, 10] := by decide +kernel
  show (⟨_, _, (factL.go factX).cells⟩ : Mat) = _
  rw [h]
  rfl
end Gal
namespace Go.Proofs.Ytlfeijffjpjnnaa
open Go.RowKit Gal
set_option maxRecDepth 100000 in
set_option maxHeartbeats 2000000 in
theorem layFact_any (w : World) : Calls Try.prog 35 #[] w fun e w' => e = .returned (.bool true) ∧ Below w.heap.size w w' := by
  have HE : Hid (errV (factL.goFault factX) = .nilIface) := Lib.hid (errV_nil fact_fault)
  have HO : Hid (orNone (factL.goFault factX) (factL.go factX) = ⟨1, 2, [4, 10]⟩) := Lib.hid (by rw [orNone_ok fact_fault, fact_go])
  go_enter Try.func35, Try.ntmps35
  go_wp2_with fail
  refine (layGo_any factL factX _ _ _ ⟨some ⟨w.heap.size, 0, none⟩, 4, 4, w.heap.size, 0, some ⟨w.heap.size + 1, 0, none⟩, 2, 2, w.heap.size + 1, 0, rfl, ints_box (xs := [256, 0, 0, 512]) (show Box _ w.heap.size [.int .i64 256, .int .i64 0, .int .i64 0, .int .i64 512] 3 from (by repeat (first | fail | (with_reducible refine (Box.new' _ w.heap.size _ _ ?_); (simp; done)) | (with_reducible refine Box.alloc ?_ _) | (with_reducible refine Box.drewN ?_ _) | (with_reducible refine Box.drew ?_) | (with_reducible refine Box.far ?_ ?_ _; rotate_left 1; (first | (dsimp only; omega) | omega | (simp; omega) | simp))))) (by unfold maxLen; simp), ints_box (xs := [1, 2]) (show Box _ (w.heap.size + 1) [.int .i64 1, .int .i64 2] 3 from (by repeat (first | fail | (with_reducible refine (Box.new' _ (w.heap.size + 1) _ _ ?_); (simp; done)) | (with_reducible refine Box.alloc ?_ _) | (with_reducible refine Box.drewN ?_ _) | (with_reducible refine Box.drew ?_) | (with_reducible refine Box.far ?_ ?_ _; rotate_left 1; (first | (dsimp only; omega) | omega | (simp; omega) | simp))))) (by unfold maxLen; simp)⟩ ⟨some ⟨w.heap.size + 1 + 1 + 1, 0, none⟩, 2, 2, w.heap.size + 1 + 1 + 1, 0, rfl, ints_box (xs := [3, 4]) (show Box _ (w.heap.size + 1 + 1 + 1) [.int .i64 3, .int .i64 4] 3 from (by repeat (first | fail | (with_reducible refine (Box.new' _ (w.heap.size + 1 + 1 + 1) _ _ ?_); (simp; done)) | (with_reducible refine Box.alloc ?_ _) | (with_reducible refine Box.drewN ?_ _) | (with_reducible refine Box.drew ?_) | (with_reducible refine Box.far ?_ ?_ _; rotate_left 1; (first | (dsimp only; omega) | omega | (simp; omega) | simp))))) (by unfold maxLen; simp)⟩).mono ?_
  rw [HE.out, HO.out]
  rintro e w1 ⟨v, rfl, ⟨a5, n5, k5, b5, o5, rfl, hn5, x5⟩, hb1⟩
  obtain rfl : n5 = 2 := x5.len.symm
  go_wp2_with fail
  refine (ints_any _ _ _ _ _ _ _ _ _ _ [4, 10] [4, 10] _ (x5.alloc _ |>.alloc _) (ints_box (xs := [4, 10]) (show Box _ (w1.heap.size + 1) [.int .i64 4, .int .i64 10] 3 from (by repeat (first | fail | (with_reducible refine (Box.new' _ (w1.heap.size + 1) _ _ ?_); (simp; done)) | (with_reducible refine Box.alloc ?_ _) | (with_reducible refine Box.drewN ?_ _) | (with_reducible refine Box.drew ?_) | (with_reducible refine Box.far ?_ ?_ _; rotate_left 1; (first | (dsimp only; omega) | omega | (simp; omega) | simp))))) (by unfold maxLen; simp))).mono ?_
  rw [decide_eq_true rfl]
  rintro e w2 ⟨rfl, m, rfl⟩
  go_wp2
  go_ret
  exact ⟨rfl, (by repeat (first | fail | (with_reducible exact Below.refl _ _) | (with_reducible refine Below.al ?_ _) | (with_reducible refine Below.drN ?_ _) | (with_reducible refine Below.drew ?_) | (with_reducible refine Below.st ?_ ?_ _; rotate_left 1; (first | (dsimp only; omega) | omega | (simp; omega) | simp)) | (with_reducible refine Below.go ?_ hb1) | exact Below.refl _ _))⟩
section
variable {l : Lay} {m y g : Mat} {v u t : Value} {w : World}
theorem layGo_is (h : LayAt w v l) (hu : MatAt w u m) (hf : l.goFault m = 0) (hy : l.go m = y) :
    Calls Try.prog 36 #[v, u] w fun e w' => ∃ x, e = .returned (.tuple #[x, .nilIface]) ∧ MatNew w.heap.size w' x y ∧ Below w.heap.size w w' := by
  have := layGo_any l m v u w h hu
  rw [orNone_ok hf, errV_nil hf, hy] at this
  exact this
theorem layGo_not (h : LayAt w v l) (hu : MatAt w u m) (hf : l.goFault m ≠ 0) :
    Calls Try.prog 36 #[v, u] w fun e w' => ∃ x, e = .returned (.tuple #[x, .iface 26 (.int .i64 (l.goFault m))]) ∧ MatNew w.heap.size w' x Mat.none ∧ Below w.heap.size w w' := by
  have := layGo_any l m v u w h hu
  rw [orNone_bad hf, errV_err hf] at this
  exact this
theorem layBack_is (h : LayAt w v l) (hu : MatAt w u m) (ht : MatAt w t g) (hf : l.backFault m g = 0) (hy : l.back m g = y) :
    Calls Try.prog 37 #[v, u, t] w fun e w' => ∃ x d, e = .returned (.tuple #[x, d, .nilIface]) ∧ MatNew w.heap.size w' x y ∧ GrdNew w.heap.size w' d (l.grad m g) ∧ Below w.heap.size w w' := by
  have := layBack_any l m g v u t w h hu ht
  unfold BackPost at this
  rw [orNone_ok hf, orGrd_ok hf, errV_nil hf, hy] at this
  exact this
theorem layBack_not (h : LayAt w v l) (hu : MatAt w u m) (ht : MatAt w t g) (hf : l.backFault m g ≠ 0) :
    Calls Try.prog 37 #[v, u, t] w fun e w' => ∃ x d, e = .returned (.tuple #[x, d, .iface 26 (.int .i64 (l.backFault m g))]) ∧ MatNew w.heap.size w' x Mat.none ∧ GrdNew w.heap.size w' d Grd.none ∧ Below w.heap.size w w' := by
  have := layBack_any l m g v u t w h hu ht
  unfold BackPost at this
  rw [orNone_bad hf, orGrd_bad hf, errV_err hf] at this
  exact this
end
end Go.Proofs.Ytlfeijffjpjnnaa
