/- Contract of the laws' trainFact: a scale of 1 that ought to double learns. -/
import Derived.Test.YtgknjikjjklaiaaTrain3
import Derived.Test.YtgknjikjjklaiaaTrain4
set_option linter.unusedVariables false
set_option linter.unusedSimpArgs false
set_option linter.unusedSectionVars false
set_option maxRecDepth 100000
namespace Gal
open Go Go.RowKit
theorem int_one {W : Go.World} {b : Nat} {x : Int} {t : Go.TypeId} (h : Box W b [.int .i64 x] t) : IntsAt W (some ⟨b, 0, none⟩) 1 1 b 0 [x] :=
  ⟨rfl, Nat.le_refl _, by decide, fun _ => rfl, fun _ => h.lt, fun i (hi : i < 1) => by
    obtain rfl : i = 0 := by omega
    exact h.cell 0⟩
def factL : Lay := ⟨3, ⟨1, 1, [256]⟩, Mat.none⟩
def factS : Sta := ⟨[factL], zeroNet [factL], 0⟩
def factB : Bat := ⟨⟨1, 1, [256]⟩, ⟨1, 1, [512]⟩⟩
theorem fact_one : oneFault factS factB 1 128 0 = 0 ∧ oneOff factS factB 1 = 128 ∧ (oneOf factS factB 1 128 0).N.length = 1 ∧ (lx (oneOf factS factB 1 128 0).N 0).W.cells = [384] ∧ (oneOf factS factB 1 128 0).steps = 1 := by decide +kernel
theorem factL_small : ∀ i, i < 1 → (lx [factL] i).W.cells.length * 8 ≤ 140737488355328 ∧ (lx [factL] i).B.cells.length * 8 ≤ 140737488355328 := fun i hi => by
  obtain rfl : i = 0 := by omega
  decide
end Gal
namespace Go.Proofs.Ytgknjikjjklaiaa
open Go.RowKit Gal
set_option maxHeartbeats 8000000
theorem trainFact_any (w : World) : Calls Try.prog 12 #[] w fun e w' => e = .returned (.bool true) ∧ Below w.heap.size w w' := by
  obtain ⟨g1, g2, g3, g4, g5⟩ := fact_one
  have G1 := Lib.hid g1
  have G2 := Lib.hid g2
  have G3 := Lib.hid g3
  have G4 := Lib.hid g4
  have G5 := Lib.hid g5
  have GE : Hid (errV (oneFault factS factB 1 128 0) = .nilIface) := Lib.hid (errV_nil g1)
  clear g1 g2 g3 g4 g5
  go_enter Try.func12, Try.ntmps12
  go_wp2_with fail
  refine (trainBegin_any [factL] anyB _ 1 1 (w.heap.size + 1) 0 _ (row_one (T := 65) (show Box _ (w.heap.size + 1) [.int .i64 3, .int .i64 1, .int .i64 1, .slice (some ⟨w.heap.size, 0, none⟩) 1 1, .int .i64 0, .int .i64 0, .slice none 0 0] 65 from (by repeat (first | fail | (with_reducible refine (Box.new' _ (w.heap.size + 1) _ _ ?_); (simp; done)) | (with_reducible refine Box.alloc ?_ _) | (with_reducible refine Box.drewN ?_ _) | (with_reducible refine Box.drew ?_) | (with_reducible refine Box.far ?_ ?_ _; rotate_left 1; (first | (dsimp only; omega) | omega | (simp; omega) | simp))))) (show Form.lay.reads _ anyB [.int .i64 3, .int .i64 1, .int .i64 1, .slice (some ⟨w.heap.size, 0, none⟩) 1 1, .int .i64 0, .int .i64 0, .slice none 0 0] factL from reads_lay (l := factL) (b := w.heap.size) (o := 0) (b' := 0) (o' := 0) (fun _ => trivial) (int_one (t := 3) (show Box _ w.heap.size [.int .i64 256] 3 from (by repeat (first | fail | (with_reducible refine (Box.new' _ w.heap.size _ _ ?_); (simp; done)) | (with_reducible refine Box.alloc ?_ _) | (with_reducible refine Box.drewN ?_ _) | (with_reducible refine Box.drew ?_) | (with_reducible refine Box.far ?_ ?_ _; rotate_left 1; (first | (dsimp only; omega) | omega | (simp; omega) | simp)))))) (fun _ => trivial) (noInts _)) trivial) factL_small (by decide)).mono ?_
  rintro e w1 ⟨v1, rfl, hb1, a9, n9, k9, b9, a8, n8, k8, b8, rfl, q0, q1⟩
  have hbw1 : Below w.heap.size w w1 := (by repeat (first | fail | (with_reducible exact Below.refl _ _) | (with_reducible refine Below.al ?_ _) | (with_reducible refine Below.drN ?_ _) | (with_reducible refine Below.drew ?_) | (with_reducible refine Below.st ?_ ?_ _; rotate_left 1; (first | (dsimp only; omega) | omega | (simp; omega) | simp)) | (with_reducible refine Below.go ?_ hb1) | exact Below.refl _ _))
  have q0w := q0
  clear hb1
  go_wp2_with fail
  refine (trainOne_any factS factB 1 128 0 _ _ _ _ _ _ _ _ _ _ _ _ _ _ (q0.alloc _ |>.alloc _ |>.alloc _ |>.alloc _) (q1.alloc _ |>.alloc _ |>.alloc _ |>.alloc _) ⟨some ⟨w1.heap.size + 1, 0, none⟩, 1, 1, w1.heap.size + 1, 0, some ⟨w1.heap.size + 1 + 1, 0, none⟩, 1, 1, w1.heap.size + 1 + 1, 0, rfl, int_one (t := 3) (show Box _ (w1.heap.size + 1) [.int .i64 256] 3 from (by repeat (first | fail | (with_reducible refine (Box.new' _ (w1.heap.size + 1) _ _ ?_); (simp; done)) | (with_reducible refine Box.alloc ?_ _) | (with_reducible refine Box.drewN ?_ _) | (with_reducible refine Box.drew ?_) | (with_reducible refine Box.far ?_ ?_ _; rotate_left 1; (first | (dsimp only; omega) | omega | (simp; omega) | simp))))), int_one (t := 3) (show Box _ (w1.heap.size + 1 + 1) [.int .i64 512] 3 from (by repeat (first | fail | (with_reducible refine (Box.new' _ (w1.heap.size + 1 + 1) _ _ ?_); (simp; done)) | (with_reducible refine Box.alloc ?_ _) | (with_reducible refine Box.drewN ?_ _) | (with_reducible refine Box.drew ?_) | (with_reducible refine Box.far ?_ ?_ _; rotate_left 1; (first | (dsimp only; omega) | omega | (simp; omega) | simp)))))⟩).mono ?_
  rintro e w2 ⟨vO, off, rfl, hb2, hO, _⟩
  obtain ⟨rfl, aN, nN, kN, bN, aV, nV, kV, bV, rfl, r0, r1⟩ := hO G1.out
  rw [GE.out, G2.out, G5.out]
  have hbe : Below w.heap.size w w2 := (by repeat (first | fail | (with_reducible exact Below.refl _ _) | (with_reducible exact hbw1) | (with_reducible refine Below.al ?_ _) | (with_reducible refine Below.drN ?_ _) | (with_reducible refine Below.drew ?_) | (with_reducible refine Below.st ?_ ?_ _; rotate_left 1; (first | (dsimp only; omega) | omega | (simp; omega) | simp)) | (with_reducible refine Below.go ?_ hb2) | exact Below.refl _ _ | exact hbw1))
  have hnN : nN = 1 := by rw [← r0.len]; exact G3.out
  subst hnN
  obtain rfl := r0.ptr (by decide)
  obtain ⟨a1, n1, k1, b1, o1, a2, n2, k2, b2, o2, c0, c1, c2, c3, c4, c5, c6, x1, x2⟩ := lay_cells r0 (i := 0) (by decide)
  rw [G4.out] at x1
  have hn1 : n1 = 1 := by rw [← x1.len]; rfl
  subst hn1
  obtain rfl := x1.ptr (by decide)
  have xc := x1.cell 0 (by decide)
  have hl0 := r0.lt (by decide)
  have hl1 := x1.lt (by decide)
  simp only [Nat.zero_mul, Nat.zero_add, Nat.add_zero] at c3 xc
  rw [show ix [384] 0 = 384 from rfl] at xc
  clear hO q0 q1 q0w hb2 hbw1 c0 c1 c2 c4 c5 c6 x2 r1
  go_wp2
  go_ret
  exact ⟨rfl, (by repeat (first | fail | (with_reducible exact Below.refl _ _) | (with_reducible exact hbe) | (with_reducible refine Below.al ?_ _) | (with_reducible refine Below.drN ?_ _) | (with_reducible refine Below.drew ?_) | (with_reducible refine Below.st ?_ ?_ _; rotate_left 1; (first | (dsimp only; omega) | omega | (simp; omega) | simp)) | exact Below.refl _ _ | exact hbe))⟩
end Go.Proofs.Ytgknjikjjklaiaa
