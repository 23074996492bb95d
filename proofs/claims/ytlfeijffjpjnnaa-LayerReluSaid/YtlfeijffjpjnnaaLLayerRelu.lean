/- LayerRelu: relu twice is relu once; nothing comes of it that is below nought, and nothing goes back where nothing came: the law returns true, and the input reads as it did. No condition. -/
import Derived.Test.YtlfeijffjpjnnaaRows
import Derived.Test.YtlfeijffjpjnnaaLayFact
import Derived.Test.YtlfeijffjpjnnaaUni
import Derived.Test.YtlfeijffjpjnnaaOpen
set_option linter.unusedVariables false
set_option linter.unusedSimpArgs false
set_option linter.unusedSectionVars false
namespace Go.Proofs.Ytlfeijffjpjnnaa.lawLayerRelu
open Go.ChangeShapes Go.WideShapes Go.ChangeAt Go.RowKit Gal
set_option maxRecDepth 100000
set_option maxHeartbeats 8000000
section
variable (x g : Mat) (a0 a1 : Option Addr) (n0 n1 k0 k1 b0 b1 o0 o1 : Nat) (w : World) (x0 : IntsAt w a0 n0 k0 b0 o0 x.cells) (x1 : IntsAt w a1 n1 k1 b1 o1 g.cells)
include x0 x1
theorem walk1 (hf : x.fault ≠ 0) :
    Calls Try.prog 9 #[.agg #[.int .i64 x.rows, .int .i64 x.cols, .slice a0 n0 k0], .agg #[.int .i64 g.rows, .int .i64 g.cols, .slice a1 n1 k1]] w fun e w' => e = .returned (.bool true) ∧ Below w.heap.size w w'
  := by
  have HE : Hid (errV (reluL.goFault x) = .iface 26 (.int .i64 x.fault)) := Lib.hid (by rw [reluL_go]; exact errV_err hf)
  have HO : Hid (orNone (reluL.goFault x) (reluL.go x) = Mat.none) := Lib.hid (orNone_bad (by rw [reluL_go]; exact hf))
  clear hf
  go_enter Try.func9, Try.ntmps9
  go_wp2_with fail
  refine (layFact_any _).mono ?_
  rintro e w1 ⟨rfl, hb1⟩
  have B0 := ((show Box _ w.heap.size [.int .i64 x.rows, .int .i64 x.cols, .slice a0 n0 k0] 31 from (by repeat (first | fail | (with_reducible refine (Box.new' _ w.heap.size _ _ ?_); (simp; done)) | (with_reducible refine Box.alloc ?_ _) | (with_reducible refine Box.drewN ?_ _) | (with_reducible refine Box.drew ?_) | (with_reducible refine Box.far ?_ ?_ _; rotate_left 1; (first | (dsimp only; omega) | omega | (simp; omega) | simp)))))).keep hb1
  have B0c := B0.cell
  have B0f := B0.thawed
  have B0z := B0.lt
  have B0k := lt_add B0z
  have B1 := ((show Box _ (w.heap.size + 1) [.int .i64 g.rows, .int .i64 g.cols, .slice a1 n1 k1] 31 from (by repeat (first | fail | (with_reducible refine (Box.new' _ (w.heap.size + 1) _ _ ?_); (simp; done)) | (with_reducible refine Box.alloc ?_ _) | (with_reducible refine Box.drewN ?_ _) | (with_reducible refine Box.drew ?_) | (with_reducible refine Box.far ?_ ?_ _; rotate_left 1; (first | (dsimp only; omega) | omega | (simp; omega) | simp)))))).keep hb1
  have B1c := B1.cell
  have B1f := B1.thawed
  have B1z := B1.lt
  have B1k := lt_add B1z
  replace x0 := (x0.alloc _ |>.alloc _).keep hb1
  replace x1 := (x1.alloc _ |>.alloc _).keep hb1
  go_wp2_with fail
  refine (layGo_any reluL x _ _ _ ⟨none, 0, 0, 0, 0, none, 0, 0, 0, 0, rfl, noInts _, noInts _⟩ (MatAt.mk (x0.alloc _))).mono ?_
  rw [HE.out, HO.out]
  rintro e w2 ⟨yv, rfl, ⟨a2, n2, k2, b2, o2, rfl, hn2, y2⟩, hb2⟩
  go_wp2
  go_ret
  exact ⟨rfl, (by repeat (first | fail | (with_reducible exact Below.refl _ _) | (with_reducible refine Below.al ?_ _) | (with_reducible refine Below.drN ?_ _) | (with_reducible refine Below.drew ?_) | (with_reducible refine Below.st ?_ ?_ _; rotate_left 1; (first | (dsimp only; omega) | omega | (simp; omega) | simp)) | (with_reducible refine Below.go ?_ hb2) | (with_reducible refine Below.go ?_ hb1) | exact Below.refl _ _))⟩
theorem walk2 (hf : x.fault = 0) (hb : reluL.backFault x g ≠ 0) :
    Calls Try.prog 9 #[.agg #[.int .i64 x.rows, .int .i64 x.cols, .slice a0 n0 k0], .agg #[.int .i64 g.rows, .int .i64 g.cols, .slice a1 n1 k1]] w fun e w' => e = .returned (.bool true) ∧ Below w.heap.size w w'
  := by
  have HE : Hid (errV (reluL.goFault x) = .nilIface) := Lib.hid (errV_nil ((reluL_go x).trans hf))
  have HO : Hid (orNone (reluL.goFault x) (reluL.go x) = reluL.go x) := Lib.hid (orNone_ok ((reluL_go x).trans hf))
  obtain ⟨ys, hys⟩ : ∃ ys, upto (fun k => max (ix x.cells k) 0) x.cells.length = ys := ⟨_, rfl⟩
  have hy : reluL.go x = ⟨x.rows, x.cols, ys⟩ := by rw [reluL_is, hys]
  have HY := Lib.hid hy
  have fy : (⟨x.rows, x.cols, ys⟩ : Mat).fault = 0 := by rw [← hy]; exact go_fault ((reluL_go x).trans hf)
  have HE2 : Hid (errV (reluL.goFault ⟨x.rows, x.cols, ys⟩) = .nilIface) := Lib.hid (errV_nil ((reluL_go _).trans fy))
  have HO2 : Hid (orNone (reluL.goFault ⟨x.rows, x.cols, ys⟩) (reluL.go ⟨x.rows, x.cols, ys⟩) = reluL.go ⟨x.rows, x.cols, ys⟩) := Lib.hid (orNone_ok ((reluL_go _).trans fy))
  have HT : Hid (reluL.go ⟨x.rows, x.cols, ys⟩ = ⟨x.rows, x.cols, ys⟩) := Lib.hid (by rw [← hy]; exact reluL_twice x)
  have HB : Hid (errV (reluL.backFault x g) = .iface 26 (.int .i64 (reluL.backFault x g))) := Lib.hid (errV_err hb)
  clear hf hb hy hys fy
  go_enter Try.func9, Try.ntmps9
  go_wp2_with fail
  refine (layFact_any _).mono ?_
  rintro e w1 ⟨rfl, hb1⟩
  have B0 := ((show Box _ w.heap.size [.int .i64 x.rows, .int .i64 x.cols, .slice a0 n0 k0] 31 from (by repeat (first | fail | (with_reducible refine (Box.new' _ w.heap.size _ _ ?_); (simp; done)) | (with_reducible refine Box.alloc ?_ _) | (with_reducible refine Box.drewN ?_ _) | (with_reducible refine Box.drew ?_) | (with_reducible refine Box.far ?_ ?_ _; rotate_left 1; (first | (dsimp only; omega) | omega | (simp; omega) | simp)))))).keep hb1
  have B0c := B0.cell
  have B0f := B0.thawed
  have B0z := B0.lt
  have B0k := lt_add B0z
  have B1 := ((show Box _ (w.heap.size + 1) [.int .i64 g.rows, .int .i64 g.cols, .slice a1 n1 k1] 31 from (by repeat (first | fail | (with_reducible refine (Box.new' _ (w.heap.size + 1) _ _ ?_); (simp; done)) | (with_reducible refine Box.alloc ?_ _) | (with_reducible refine Box.drewN ?_ _) | (with_reducible refine Box.drew ?_) | (with_reducible refine Box.far ?_ ?_ _; rotate_left 1; (first | (dsimp only; omega) | omega | (simp; omega) | simp)))))).keep hb1
  have B1c := B1.cell
  have B1f := B1.thawed
  have B1z := B1.lt
  have B1k := lt_add B1z
  replace x0 := (x0.alloc _ |>.alloc _).keep hb1
  replace x1 := (x1.alloc _ |>.alloc _).keep hb1
  go_wp2_with fail
  refine (layGo_any reluL x _ _ _ ⟨none, 0, 0, 0, 0, none, 0, 0, 0, 0, rfl, noInts _, noInts _⟩ (MatAt.mk (x0.alloc _))).mono ?_
  rw [HE.out, HO.out, HY.out]
  rintro e w2 ⟨yv, rfl, ⟨a2, n2, k2, b2, o2, rfl, hn2, y2⟩, hb2⟩
  have L := ((show Box _ w1.heap.size [.int .i64 2, .int .i64 0, .int .i64 0, .slice none 0 0, .int .i64 0, .int .i64 0, .slice none 0 0] 48 from (by repeat (first | fail | (with_reducible refine (Box.new' _ w1.heap.size _ _ ?_); (simp; done)) | (with_reducible refine Box.alloc ?_ _) | (with_reducible refine Box.drewN ?_ _) | (with_reducible refine Box.drew ?_) | (with_reducible refine Box.far ?_ ?_ _; rotate_left 1; (first | (dsimp only; omega) | omega | (simp; omega) | simp)))))).keep hb2
  have Lc := L.cell
  have Lf := L.thawed
  have Lz := L.lt
  have Lk := lt_add Lz
  have hkw2 : Below w1.heap.size w1 w2 := (by repeat (first | fail | (with_reducible exact Below.refl _ _) | (with_reducible refine Below.al ?_ _) | (with_reducible refine Below.drN ?_ _) | (with_reducible refine Below.drew ?_) | (with_reducible refine Below.st ?_ ?_ _; rotate_left 1; (first | (dsimp only; omega) | omega | (simp; omega) | simp)) | (with_reducible refine Below.go ?_ hb2) | exact Below.refl _ _))
  replace B0 := B0.keep hkw2
  replace B0c := B0.cell
  replace B0f := B0.thawed
  replace B0z := B0.lt
  replace B0k := lt_add B0z
  replace B1 := B1.keep hkw2
  replace B1c := B1.cell
  replace B1f := B1.thawed
  replace B1z := B1.lt
  replace B1k := lt_add B1z
  replace x0 := x0.keep hkw2
  replace x1 := x1.keep hkw2
  have hsw2 := hkw2.size
  go_wp2_with fail
  refine (layGo_any reluL ⟨x.rows, x.cols, ys⟩ _ _ _ ⟨none, 0, 0, 0, 0, none, 0, 0, 0, 0, rfl, noInts _, noInts _⟩ (MatAt.mk (y2.alloc _))).mono ?_
  rw [HE2.out, HO2.out, HT.out]
  rintro e w3 ⟨zv, rfl, ⟨a3, n3, k3, b3, o3, rfl, hn3, y3⟩, hb3⟩
  have Y7 := (Box.new w2 [.int .i64 x.rows, .int .i64 x.cols, .slice a2 n2 k2] 31).keep hb3
  have Y7c := Y7.cell
  have Y7f := Y7.thawed
  have Y7z := Y7.lt
  have Y7k := lt_add Y7z
  have hkw3 : Below w2.heap.size w2 w3 := (by repeat (first | fail | (with_reducible exact Below.refl _ _) | (with_reducible refine Below.al ?_ _) | (with_reducible refine Below.drN ?_ _) | (with_reducible refine Below.drew ?_) | (with_reducible refine Below.st ?_ ?_ _; rotate_left 1; (first | (dsimp only; omega) | omega | (simp; omega) | simp)) | (with_reducible refine Below.go ?_ hb3) | exact Below.refl _ _))
  replace B0 := B0.keep hkw3
  replace B0c := B0.cell
  replace B0f := B0.thawed
  replace B0z := B0.lt
  replace B0k := lt_add B0z
  replace B1 := B1.keep hkw3
  replace B1c := B1.cell
  replace B1f := B1.thawed
  replace B1z := B1.lt
  replace B1k := lt_add B1z
  replace L := L.keep hkw3
  replace Lc := L.cell
  replace Lf := L.thawed
  replace Lz := L.lt
  replace Lk := lt_add Lz
  replace x0 := x0.keep hkw3
  replace x1 := x1.keep hkw3
  replace y2 := y2.keep hkw3
  have hsw3 := hkw3.size
  go_wp2_with fail
  refine (matrices_same ⟨x.rows, x.cols, ys⟩ _ _ _ (MatAt.mk (y3.alloc _)) (MatAt.mk (y2.alloc _))).mono ?_
  rintro e w4 ⟨rfl, hb4⟩
  have hkw4 : Below w3.heap.size w3 w4 := (by repeat (first | fail | (with_reducible exact Below.refl _ _) | (with_reducible refine Below.al ?_ _) | (with_reducible refine Below.drN ?_ _) | (with_reducible refine Below.drew ?_) | (with_reducible refine Below.st ?_ ?_ _; rotate_left 1; (first | (dsimp only; omega) | omega | (simp; omega) | simp)) | (with_reducible refine Below.go ?_ hb4) | exact Below.refl _ _))
  replace B0 := B0.keep hkw4
  replace B0c := B0.cell
  replace B0f := B0.thawed
  replace B0z := B0.lt
  replace B0k := lt_add B0z
  replace B1 := B1.keep hkw4
  replace B1c := B1.cell
  replace B1f := B1.thawed
  replace B1z := B1.lt
  replace B1k := lt_add B1z
  replace L := L.keep hkw4
  replace Lc := L.cell
  replace Lf := L.thawed
  replace Lz := L.lt
  replace Lk := lt_add Lz
  replace Y7 := Y7.keep hkw4
  replace Y7c := Y7.cell
  replace Y7f := Y7.thawed
  replace Y7z := Y7.lt
  replace Y7k := lt_add Y7z
  replace x0 := x0.keep hkw4
  replace x1 := x1.keep hkw4
  replace y2 := y2.keep hkw4
  have hsw4 := hkw4.size
  go_wp2_with fail
  refine (layBack_any reluL x g _ _ _ _ ⟨none, 0, 0, 0, 0, none, 0, 0, 0, 0, rfl, noInts _, noInts _⟩ (MatAt.mk x0) (MatAt.mk x1)).mono ?_
  skip
  rintro e w5 ⟨bv, dv, rfl, hbv, hdv, hb5⟩
  have hkw5 : Below w4.heap.size w4 w5 := (by repeat (first | fail | (with_reducible exact Below.refl _ _) | (with_reducible refine Below.al ?_ _) | (with_reducible refine Below.drN ?_ _) | (with_reducible refine Below.drew ?_) | (with_reducible refine Below.st ?_ ?_ _; rotate_left 1; (first | (dsimp only; omega) | omega | (simp; omega) | simp)) | (with_reducible refine Below.go ?_ hb5) | exact Below.refl _ _))
  replace B0 := B0.keep hkw5
  replace B0c := B0.cell
  replace B0f := B0.thawed
  replace B0z := B0.lt
  replace B0k := lt_add B0z
  replace B1 := B1.keep hkw5
  replace B1c := B1.cell
  replace B1f := B1.thawed
  replace B1z := B1.lt
  replace B1k := lt_add B1z
  replace Y7 := Y7.keep hkw5
  replace Y7c := Y7.cell
  replace Y7f := Y7.thawed
  replace Y7z := Y7.lt
  replace Y7k := lt_add Y7z
  replace x0 := x0.keep hkw5
  replace x1 := x1.keep hkw5
  replace y2 := y2.keep hkw5
  have hsw5 := hkw5.size
  rw [HB.out]
  obtain ⟨a5, n5, k5, b5, o5, rfl, hn5, x5⟩ := hbv
  obtain ⟨a6, n6, k6, b6, o6, a7, n7, k7, b7, o7, rfl, hn6, x6, hn7, x7⟩ := hdv
  go_wp2
  go_ret
  exact ⟨rfl, (by repeat (first | fail | (with_reducible exact Below.refl _ _) | (with_reducible refine Below.al ?_ _) | (with_reducible refine Below.drN ?_ _) | (with_reducible refine Below.drew ?_) | (with_reducible refine Below.st ?_ ?_ _; rotate_left 1; (first | (dsimp only; omega) | omega | (simp; omega) | simp)) | (with_reducible refine Below.go ?_ hb5) | (with_reducible refine Below.go ?_ hb4) | (with_reducible refine Below.go ?_ hb3) | (with_reducible refine Below.go ?_ hb2) | (with_reducible refine Below.go ?_ hb1) | exact Below.refl _ _))⟩
theorem walk3 (hf : x.fault = 0) (hb : reluL.backFault x g = 0) :
    Calls Try.prog 9 #[.agg #[.int .i64 x.rows, .int .i64 x.cols, .slice a0 n0 k0], .agg #[.int .i64 g.rows, .int .i64 g.cols, .slice a1 n1 k1]] w fun e w' => e = .returned (.bool true) ∧ Below w.heap.size w w'
  := by
  have HE : Hid (errV (reluL.goFault x) = .nilIface) := Lib.hid (errV_nil ((reluL_go x).trans hf))
  have HO : Hid (orNone (reluL.goFault x) (reluL.go x) = reluL.go x) := Lib.hid (orNone_ok ((reluL_go x).trans hf))
  obtain ⟨ys, hys⟩ : ∃ ys, upto (fun k => max (ix x.cells k) 0) x.cells.length = ys := ⟨_, rfl⟩
  have hy : reluL.go x = ⟨x.rows, x.cols, ys⟩ := by rw [reluL_is, hys]
  have HY := Lib.hid hy
  have fy : (⟨x.rows, x.cols, ys⟩ : Mat).fault = 0 := by rw [← hy]; exact go_fault ((reluL_go x).trans hf)
  have HE2 : Hid (errV (reluL.goFault ⟨x.rows, x.cols, ys⟩) = .nilIface) := Lib.hid (errV_nil ((reluL_go _).trans fy))
  have HO2 : Hid (orNone (reluL.goFault ⟨x.rows, x.cols, ys⟩) (reluL.go ⟨x.rows, x.cols, ys⟩) = reluL.go ⟨x.rows, x.cols, ys⟩) := Lib.hid (orNone_ok ((reluL_go _).trans fy))
  have HT : Hid (reluL.go ⟨x.rows, x.cols, ys⟩ = ⟨x.rows, x.cols, ys⟩) := Lib.hid (by rw [← hy]; exact reluL_twice x)
  have HB : Hid (errV (reluL.backFault x g) = .nilIface) := Lib.hid (errV_nil hb)
  have HN : Hid (orNone (reluL.backFault x g) (reluL.back x g) = ⟨x.rows, x.cols, upto (fun k => if 0 < ix x.cells k then ix g.cells k else 0) x.cells.length⟩) := Lib.hid (orNone_ok hb)
  have HG : Hid (orGrd (reluL.backFault x g) (reluL.grad x g) = Grd.none) := Lib.hid (orGrd_ok hb)
  have hln : g.cells.length = x.cells.length ∧ x.cells.length ≤ 288 := by
    obtain ⟨_, g2, g3, g4, _⟩ := Lay.backFault_ok hb
    exact same_len hf g2 g3 g4
  have hn0 := x0.len
  have hn1 := x1.len
  have HNN : Hid (n1 = n0) := Lib.hid (by omega)
  have h288 : n0 ≤ 288 := by omega
  have HYI : Hid (∀ k, k < n0 → ix ys k = max (ix x.cells k) 0) := Lib.hid fun k hk => by rw [← hys, upto_ix (by omega)]
  have hyl : ys.length = n0 := by rw [← hys, upto_length]; exact hn0
  have HYL := Lib.hid hyl
  have HXL := Lib.hid hn0
  clear hf hb hy hys fy hln hn0 hn1 hyl
  go_enter Try.func9, Try.ntmps9
  go_wp2_with fail
  refine (layFact_any _).mono ?_
  rintro e w1 ⟨rfl, hb1⟩
  have B0 := ((show Box _ w.heap.size [.int .i64 x.rows, .int .i64 x.cols, .slice a0 n0 k0] 31 from (by repeat (first | fail | (with_reducible refine (Box.new' _ w.heap.size _ _ ?_); (simp; done)) | (with_reducible refine Box.alloc ?_ _) | (with_reducible refine Box.drewN ?_ _) | (with_reducible refine Box.drew ?_) | (with_reducible refine Box.far ?_ ?_ _; rotate_left 1; (first | (dsimp only; omega) | omega | (simp; omega) | simp)))))).keep hb1
  have B0c := B0.cell
  have B0f := B0.thawed
  have B0z := B0.lt
  have B0k := lt_add B0z
  have B1 := ((show Box _ (w.heap.size + 1) [.int .i64 g.rows, .int .i64 g.cols, .slice a1 n1 k1] 31 from (by repeat (first | fail | (with_reducible refine (Box.new' _ (w.heap.size + 1) _ _ ?_); (simp; done)) | (with_reducible refine Box.alloc ?_ _) | (with_reducible refine Box.drewN ?_ _) | (with_reducible refine Box.drew ?_) | (with_reducible refine Box.far ?_ ?_ _; rotate_left 1; (first | (dsimp only; omega) | omega | (simp; omega) | simp)))))).keep hb1
  have B1c := B1.cell
  have B1f := B1.thawed
  have B1z := B1.lt
  have B1k := lt_add B1z
  replace x0 := (x0.alloc _ |>.alloc _).keep hb1
  replace x1 := (x1.alloc _ |>.alloc _).keep hb1
  go_wp2_with fail
  refine (layGo_any reluL x _ _ _ ⟨none, 0, 0, 0, 0, none, 0, 0, 0, 0, rfl, noInts _, noInts _⟩ (MatAt.mk (x0.alloc _))).mono ?_
  rw [HE.out, HO.out, HY.out]
  rintro e w2 ⟨yv, rfl, ⟨a2, n2, k2, b2, o2, rfl, hn2, y2⟩, hb2⟩
  have L := ((show Box _ w1.heap.size [.int .i64 2, .int .i64 0, .int .i64 0, .slice none 0 0, .int .i64 0, .int .i64 0, .slice none 0 0] 48 from (by repeat (first | fail | (with_reducible refine (Box.new' _ w1.heap.size _ _ ?_); (simp; done)) | (with_reducible refine Box.alloc ?_ _) | (with_reducible refine Box.drewN ?_ _) | (with_reducible refine Box.drew ?_) | (with_reducible refine Box.far ?_ ?_ _; rotate_left 1; (first | (dsimp only; omega) | omega | (simp; omega) | simp)))))).keep hb2
  have Lc := L.cell
  have Lf := L.thawed
  have Lz := L.lt
  have Lk := lt_add Lz
  have hkw2 : Below w1.heap.size w1 w2 := (by repeat (first | fail | (with_reducible exact Below.refl _ _) | (with_reducible refine Below.al ?_ _) | (with_reducible refine Below.drN ?_ _) | (with_reducible refine Below.drew ?_) | (with_reducible refine Below.st ?_ ?_ _; rotate_left 1; (first | (dsimp only; omega) | omega | (simp; omega) | simp)) | (with_reducible refine Below.go ?_ hb2) | exact Below.refl _ _))
  replace B0 := B0.keep hkw2
  replace B0c := B0.cell
  replace B0f := B0.thawed
  replace B0z := B0.lt
  replace B0k := lt_add B0z
  replace B1 := B1.keep hkw2
  replace B1c := B1.cell
  replace B1f := B1.thawed
  replace B1z := B1.lt
  replace B1k := lt_add B1z
  replace x0 := x0.keep hkw2
  replace x1 := x1.keep hkw2
  have hsw2 := hkw2.size
  go_wp2_with fail
  refine (layGo_any reluL ⟨x.rows, x.cols, ys⟩ _ _ _ ⟨none, 0, 0, 0, 0, none, 0, 0, 0, 0, rfl, noInts _, noInts _⟩ (MatAt.mk (y2.alloc _))).mono ?_
  rw [HE2.out, HO2.out, HT.out]
  rintro e w3 ⟨zv, rfl, ⟨a3, n3, k3, b3, o3, rfl, hn3, y3⟩, hb3⟩
  have Y7 := (Box.new w2 [.int .i64 x.rows, .int .i64 x.cols, .slice a2 n2 k2] 31).keep hb3
  have Y7c := Y7.cell
  have Y7f := Y7.thawed
  have Y7z := Y7.lt
  have Y7k := lt_add Y7z
  have hkw3 : Below w2.heap.size w2 w3 := (by repeat (first | fail | (with_reducible exact Below.refl _ _) | (with_reducible refine Below.al ?_ _) | (with_reducible refine Below.drN ?_ _) | (with_reducible refine Below.drew ?_) | (with_reducible refine Below.st ?_ ?_ _; rotate_left 1; (first | (dsimp only; omega) | omega | (simp; omega) | simp)) | (with_reducible refine Below.go ?_ hb3) | exact Below.refl _ _))
  replace B0 := B0.keep hkw3
  replace B0c := B0.cell
  replace B0f := B0.thawed
  replace B0z := B0.lt
  replace B0k := lt_add B0z
  replace B1 := B1.keep hkw3
  replace B1c := B1.cell
  replace B1f := B1.thawed
  replace B1z := B1.lt
  replace B1k := lt_add B1z
  replace L := L.keep hkw3
  replace Lc := L.cell
  replace Lf := L.thawed
  replace Lz := L.lt
  replace Lk := lt_add Lz
  replace x0 := x0.keep hkw3
  replace x1 := x1.keep hkw3
  replace y2 := y2.keep hkw3
  have hsw3 := hkw3.size
  go_wp2_with fail
  refine (matrices_same ⟨x.rows, x.cols, ys⟩ _ _ _ (MatAt.mk (y3.alloc _)) (MatAt.mk (y2.alloc _))).mono ?_
  rintro e w4 ⟨rfl, hb4⟩
  have hkw4 : Below w3.heap.size w3 w4 := (by repeat (first | fail | (with_reducible exact Below.refl _ _) | (with_reducible refine Below.al ?_ _) | (with_reducible refine Below.drN ?_ _) | (with_reducible refine Below.drew ?_) | (with_reducible refine Below.st ?_ ?_ _; rotate_left 1; (first | (dsimp only; omega) | omega | (simp; omega) | simp)) | (with_reducible refine Below.go ?_ hb4) | exact Below.refl _ _))
  replace B0 := B0.keep hkw4
  replace B0c := B0.cell
  replace B0f := B0.thawed
  replace B0z := B0.lt
  replace B0k := lt_add B0z
  replace B1 := B1.keep hkw4
  replace B1c := B1.cell
  replace B1f := B1.thawed
  replace B1z := B1.lt
  replace B1k := lt_add B1z
  replace L := L.keep hkw4
  replace Lc := L.cell
  replace Lf := L.thawed
  replace Lz := L.lt
  replace Lk := lt_add Lz
  replace Y7 := Y7.keep hkw4
  replace Y7c := Y7.cell
  replace Y7f := Y7.thawed
  replace Y7z := Y7.lt
  replace Y7k := lt_add Y7z
  replace x0 := x0.keep hkw4
  replace x1 := x1.keep hkw4
  replace y2 := y2.keep hkw4
  have hsw4 := hkw4.size
  go_wp2_with fail
  refine (layBack_any reluL x g _ _ _ _ ⟨none, 0, 0, 0, 0, none, 0, 0, 0, 0, rfl, noInts _, noInts _⟩ (MatAt.mk x0) (MatAt.mk x1)).mono ?_
  skip
  rintro e w5 ⟨bv, dv, rfl, hbv, hdv, hb5⟩
  have hkw5 : Below w4.heap.size w4 w5 := (by repeat (first | fail | (with_reducible exact Below.refl _ _) | (with_reducible refine Below.al ?_ _) | (with_reducible refine Below.drN ?_ _) | (with_reducible refine Below.drew ?_) | (with_reducible refine Below.st ?_ ?_ _; rotate_left 1; (first | (dsimp only; omega) | omega | (simp; omega) | simp)) | (with_reducible refine Below.go ?_ hb5) | exact Below.refl _ _))
  replace B0 := B0.keep hkw5
  replace B0c := B0.cell
  replace B0f := B0.thawed
  replace B0z := B0.lt
  replace B0k := lt_add B0z
  replace B1 := B1.keep hkw5
  replace B1c := B1.cell
  replace B1f := B1.thawed
  replace B1z := B1.lt
  replace B1k := lt_add B1z
  replace Y7 := Y7.keep hkw5
  replace Y7c := Y7.cell
  replace Y7f := Y7.thawed
  replace Y7z := Y7.lt
  replace Y7k := lt_add Y7z
  replace x0 := x0.keep hkw5
  replace x1 := x1.keep hkw5
  replace y2 := y2.keep hkw5
  have hsw5 := hkw5.size
  rw [HB.out]
  rw [HN.out] at hbv
  rw [HG.out] at hdv
  obtain ⟨a5, n5, k5, b5, o5, rfl, hn5, x5⟩ := hbv
  obtain ⟨a6, n6, k6, b6, o6, a7, n7, k7, b7, o7, hdv', hn6, x6, hn7, x7⟩ := hdv
  obtain rfl : dv = .agg #[.int .i64 0, .int .i64 0, .slice a6 n6 k6, .int .i64 0, .int .i64 0, .slice a7 n7 k7] := hdv'
  obtain rfl : n6 = 0 := x6.len.symm
  obtain rfl : n7 = 0 := x7.len.symm
  obtain rfl : n1 = n0 := HNN.out
  obtain rfl : n2 = n1 := by rw [← y2.len]; exact HYL.out
  obtain rfl : n5 = n2 := by rw [← x5.len]; exact (upto_length _ _).trans HXL.out
  have hbl : Below w.heap.size w w5 := (by repeat (first | fail | (with_reducible exact Below.refl _ _) | (with_reducible refine Below.al ?_ _) | (with_reducible refine Below.drN ?_ _) | (with_reducible refine Below.drew ?_) | (with_reducible refine Below.st ?_ ?_ _; rotate_left 1; (first | (dsimp only; omega) | omega | (simp; omega) | simp)) | (with_reducible refine Below.go ?_ hb5) | (with_reducible refine Below.go ?_ hb4) | (with_reducible refine Below.go ?_ hb3) | (with_reducible refine Below.go ?_ hb2) | (with_reducible refine Below.go ?_ hb1) | exact Below.refl _ _))
  obtain ⟨wq, hq, Q1, Q7, Q11, Q12, z1, z2, z5, hbq⟩ : ∃ wq, (w5.alloc (.cells #[.int .i64 x.rows, .int .i64 x.cols, .slice a5 n5 k5] 31)).alloc (.cells #[.int .i64 0, .int .i64 0, .slice a6 0 k6, .int .i64 0, .int .i64 0, .slice a7 0 k7] 51) = wq ∧
      Box wq (w.heap.size + 1) [.int .i64 g.rows, .int .i64 g.cols, .slice a1 n5 k1] 31 ∧ Box wq w2.heap.size [.int .i64 x.rows, .int .i64 x.cols, .slice a2 n5 k2] 31 ∧ Box wq w5.heap.size [.int .i64 x.rows, .int .i64 x.cols, .slice a5 n5 k5] 31 ∧
      Box wq (w5.heap.size + 1) [.int .i64 0, .int .i64 0, .slice a6 0 k6, .int .i64 0, .int .i64 0, .slice a7 0 k7] 51 ∧ IntsAt wq a1 n5 k1 b1 o1 g.cells ∧ IntsAt wq a2 n5 k2 b2 o2 ys ∧ IntsAt wq a5 n5 k5 b5 o5 (upto (fun k => if 0 < ix x.cells k then ix g.cells k else 0) x.cells.length) ∧ Below w.heap.size w wq :=
    ⟨_, rfl, (by repeat (first | fail | (with_reducible exact B1) | (with_reducible refine Box.alloc ?_ _) | (with_reducible refine Box.drewN ?_ _) | (with_reducible refine Box.drew ?_) | (with_reducible refine Box.far ?_ ?_ _; rotate_left 1; (first | (dsimp only; omega) | omega | (simp; omega) | simp)) | exact B1)), (by repeat (first | fail | (with_reducible exact Y7) | (with_reducible refine Box.alloc ?_ _) | (with_reducible refine Box.drewN ?_ _) | (with_reducible refine Box.drew ?_) | (with_reducible refine Box.far ?_ ?_ _; rotate_left 1; (first | (dsimp only; omega) | omega | (simp; omega) | simp)) | exact Y7)), (by repeat (first | fail | (with_reducible refine (Box.new' _ (w5.heap.size) _ _ ?_); (simp; done)) | (with_reducible refine Box.alloc ?_ _) | (with_reducible refine Box.drewN ?_ _) | (with_reducible refine Box.drew ?_) | (with_reducible refine Box.far ?_ ?_ _; rotate_left 1; (first | (dsimp only; omega) | omega | (simp; omega) | simp)))), (by repeat (first | fail | (with_reducible refine (Box.new' _ (w5.heap.size + 1) _ _ ?_); (simp; done)) | (with_reducible refine Box.alloc ?_ _) | (with_reducible refine Box.drewN ?_ _) | (with_reducible refine Box.drew ?_) | (with_reducible refine Box.far ?_ ?_ _; rotate_left 1; (first | (dsimp only; omega) | omega | (simp; omega) | simp)))), (by repeat (first | fail | (with_reducible exact x1) | (with_reducible refine IntsAt.alloc ?_ _) | (with_reducible refine IntsAt.drewN ?_ _) | (with_reducible refine IntsAt.drew ?_) | (with_reducible refine IntsAt.set ?_ ?_ _; rotate_left 1; (intro h0; first | (dsimp only; omega) | omega | (simp; omega) | simp)) | exact x1)), (by repeat (first | fail | (with_reducible exact y2) | (with_reducible refine IntsAt.alloc ?_ _) | (with_reducible refine IntsAt.drewN ?_ _) | (with_reducible refine IntsAt.drew ?_) | (with_reducible refine IntsAt.set ?_ ?_ _; rotate_left 1; (intro h0; first | (dsimp only; omega) | omega | (simp; omega) | simp)) | exact y2)), (by repeat (first | fail | (with_reducible exact x5) | (with_reducible refine IntsAt.alloc ?_ _) | (with_reducible refine IntsAt.drewN ?_ _) | (with_reducible refine IntsAt.drew ?_) | (with_reducible refine IntsAt.set ?_ ?_ _; rotate_left 1; (intro h0; first | (dsimp only; omega) | omega | (simp; omega) | simp)) | exact x5)), (by repeat (first | fail | (with_reducible exact Below.refl _ _) | (with_reducible exact hbl) | (with_reducible refine Below.al ?_ _) | (with_reducible refine Below.drN ?_ _) | (with_reducible refine Below.drew ?_) | (with_reducible refine Below.st ?_ ?_ _; rotate_left 1; (first | (dsimp only; omega) | omega | (simp; omega) | simp)) | exact Below.refl _ _ | exact hbl))⟩
  clear B0 B0c B0f B0z B0k B1 B1c B1f B1z B1k Y7 Y7c Y7f Y7z Y7k
  have Q1 := Q1
  have Q1c := Q1.cell
  have Q1f := Q1.thawed
  have Q1z := Q1.lt
  have Q1k := lt_add Q1z
  have Q7 := Q7
  have Q7c := Q7.cell
  have Q7f := Q7.thawed
  have Q7z := Q7.lt
  have Q7k := lt_add Q7z
  have Q11 := Q11
  have Q11c := Q11.cell
  have Q11f := Q11.thawed
  have Q11z := Q11.lt
  have Q11k := lt_add Q11z
  have Q12 := Q12
  have Q12c := Q12.cell
  have Q12f := Q12.thawed
  have Q12z := Q12.lt
  have Q12k := lt_add Q12z
  go_wp2
  try clear hq
  try clear hb1
  try clear hb2
  try clear hb3
  try clear hb4
  try clear hb5
  try clear hkw1
  try clear hkw2
  try clear hkw3
  try clear hkw4
  try clear hkw5
  try clear hsw1
  try clear hsw2
  try clear hsw3
  try clear hsw4
  try clear hsw5
  try clear L
  try clear Lc
  try clear Lf
  try clear Lz
  try clear Lk
  try clear hn2
  try clear hn3
  try clear hn5
  try clear hn6
  try clear hn7
  try clear hdv'
  try clear x0
  try clear x1
  try clear y2
  try clear y3
  try clear x5
  try clear x6
  try clear x7
  try clear hbl
  try clear HE
  try clear HO
  try clear HY
  try clear HE2
  try clear HO2
  try clear HT
  try clear HB
  try clear HN
  try clear HG
  try clear HNN
  try clear HYL
  go_loopw [13] (fun i wr => ∃ k : Nat, k ≤ n5 ∧ i = .int .i64 k ∧ Below wq.heap.size wq wr) (fun i _ => n5 - (intOf i).toNat)
  case atStart => exact ⟨0, Nat.zero_le _, rfl, Below.refl _ _⟩
  case round =>
    obtain ⟨k, hk, rfl, hbr⟩ := hrel
    have hkwr : Below wq.heap.size wq wr := (by repeat (first | fail | (with_reducible exact Below.refl _ _) | (with_reducible refine Below.al ?_ _) | (with_reducible refine Below.drN ?_ _) | (with_reducible refine Below.drew ?_) | (with_reducible refine Below.st ?_ ?_ _; rotate_left 1; (first | (dsimp only; omega) | omega | (simp; omega) | simp)) | (with_reducible refine Below.go ?_ hbr) | exact Below.refl _ _))
    replace Q1 := Q1.keep hkwr
    replace Q1c := Q1.cell
    replace Q1f := Q1.thawed
    replace Q1z := Q1.lt
    replace Q1k := lt_add Q1z
    replace Q7 := Q7.keep hkwr
    replace Q7c := Q7.cell
    replace Q7f := Q7.thawed
    replace Q7z := Q7.lt
    replace Q7k := lt_add Q7z
    replace Q11 := Q11.keep hkwr
    replace Q11c := Q11.cell
    replace Q11f := Q11.thawed
    replace Q11z := Q11.lt
    replace Q11k := lt_add Q11z
    replace Q12 := Q12.keep hkwr
    replace Q12c := Q12.cell
    replace Q12f := Q12.thawed
    replace Q12z := Q12.lt
    replace Q12k := lt_add Q12z
    replace z1 := z1.keep hkwr
    replace z2 := z2.keep hkwr
    replace z5 := z5.keep hkwr
    by_cases hlt : k < n5
    · have hltI : (k : Int) < (n5 : Int) := by omega
      obtain rfl := z1.ptr (by omega)
      obtain rfl := z2.ptr (by omega)
      obtain rfl := z5.ptr (by omega)
      have c1 := z1.cell k hlt
      have c2 := z2.cell k hlt
      have c5 := z5.cell k hlt
      rw [upto_ix (by rw [HXL.out]; exact hlt)] at c5
      rw [HYI.out k hlt] at c2
      by_cases hp : 0 < ix x.cells k
      · rw [if_pos hp] at c5
        rw [show max (ix x.cells k) 0 = ix x.cells k by omega] at c2
        have e1 : decide (ix x.cells k < 0) = false := decide_eq_false (by omega)
        have e2 : (ix x.cells k == 0) = false := by simp; omega
        have e3 : decide (0 < ix x.cells k) = true := decide_eq_true hp
        have e4 : (ix g.cells k != ix g.cells k) = false := by simp
        generalize ix x.cells k = p at *
        generalize ix g.cells k = q at *
        go_wp2
        go_quiet (fail)
        go_wp2
        go_roundw
        case rel => exact ⟨k + 1, by omega, by go_num, (by repeat (first | fail | (with_reducible exact Below.refl _ _) | (with_reducible exact hbr) | (with_reducible refine Below.al ?_ _) | (with_reducible refine Below.drN ?_ _) | (with_reducible refine Below.drew ?_) | (with_reducible refine Below.st ?_ ?_ _; rotate_left 1; (first | (dsimp only; omega) | omega | (simp; omega) | simp)) | exact Below.refl _ _ | exact hbr))⟩
        case measure => simp [intOf]; omega
      · rw [if_neg hp] at c5
        rw [show max (ix x.cells k) 0 = 0 by omega] at c2
        clear hp
        go_wp2
        go_quiet (fail)
        go_wp2
        go_roundw
        case rel => exact ⟨k + 1, by omega, by go_num, (by repeat (first | fail | (with_reducible exact Below.refl _ _) | (with_reducible exact hbr) | (with_reducible refine Below.al ?_ _) | (with_reducible refine Below.drN ?_ _) | (with_reducible refine Below.drew ?_) | (with_reducible refine Below.st ?_ ?_ _; rotate_left 1; (first | (dsimp only; omega) | omega | (simp; omega) | simp)) | exact Below.refl _ _ | exact hbr))⟩
        case measure => simp [intOf]; omega
    · go_wp2
      go_ret
      exact ⟨rfl, (by repeat (first | fail | (with_reducible exact Below.refl _ _) | (with_reducible exact hbq) | (with_reducible refine Below.al ?_ _) | (with_reducible refine Below.drN ?_ _) | (with_reducible refine Below.drew ?_) | (with_reducible refine Below.st ?_ ?_ _; rotate_left 1; (first | (dsimp only; omega) | omega | (simp; omega) | simp)) | (with_reducible refine Below.go ?_ hbr) | exact Below.refl _ _ | exact hbq))⟩
end
theorem walk (x : Mat) (vx : Value) (g : Mat) (vg : Value) (w : World) (hx : MatAt w vx x) (hg : MatAt w vg g) : Calls Try.prog 9 #[vx, vg] w fun e w' => e = .returned (.bool true) ∧ Below w.heap.size w w' := by
  obtain ⟨a0, n0, k0, b0, o0, rfl, x0⟩ := hx
  obtain ⟨a1, n1, k1, b1, o1, rfl, x1⟩ := hg
  by_cases hf : x.fault = 0
  · by_cases hb : reluL.backFault x g = 0
    · exact walk3 x g _ _ _ _ _ _ _ _ _ _ w x0 x1 hf hb
    · exact walk2 x g _ _ _ _ _ _ _ _ _ _ w x0 x1 hf hb
  · exact walk1 x g _ _ _ _ _ _ _ _ _ _ w x0 x1 hf

theorem own : ownKnob Try.prog.godebug = none := by kernel_rfl
theorem laidOut : laidOutB Try.prog = true := by kernel_rfl
set_option maxRecDepth 100000 in
theorem lifted (os : Os) (started : os.Started) (H : Type) (enc : TypeId × Value → H) :
    ReturnsInHanded {} Try.checked os 9 .any (Rows.layerReluSpec.pre6 enc Try.prog Try.f9 Rows.layerReluRow.domain false) (Rows.layerReluSpec.post enc Try.prog Try.f9 false true false false) := by
  refine returnsInHanded_of_change (C := Try.checked) own started (by kernel_rfl) Try.func9
    (ChangeSpec.witness6 (enc := enc) (C := Try.checked) false ⟨#[], #[.agg #[.int .i64 0, .int .i64 0, .slice none 0 0], .agg #[.int .i64 0, .int .i64 0, .slice none 0 0]], []⟩ 8 (by kernel_rfl) (by kernel_rfl) (by kernel_rfl) (by kernel_rfl)) ?_
  intro W base args ds gs before hval0 hW hcnd hsz
  have hval : ∀ (j : Nat) t v, Try.f9.params[j]? = some t → args[j]? = some v → Value.okWide Try.prog W .any base t v := hval0
  have hW' := hW
  obtain ⟨p, q, hA0, hV, rfl, hfz, hnd⟩ := hW
  have hA : DataW.TrodAll enc Try.prog W 0 (fun _ => true) true Try.f9.params.toList args.toList ds p := hA0
  rw [Try.params9] at hA hval
  obtain ⟨v0, vs0, d0, ds0, p0, q0, hargs, rfl, rfl, h0, r0⟩ := trodAll_cons hA
  obtain ⟨v1, vs1, d1, ds1, p1, q1, rfl, rfl, rfl, h1, r1⟩ := trodAll_cons r0
  obtain ⟨rfl, rfl, rfl⟩ := trodAll_nil r1
  obtain rfl : args = #[v0, v1] := by cases args; simp_all
  obtain ⟨rfl, rfl⟩ := trodVars_none hV
  have k0 := h0
  have lt0 : ∀ x ∈ p0, x.block < W.heap.size := by obtain ⟨m, hm⟩ := k0; exact DataW.trod_lt m _ _ _ hm
  have k1 := h1
  have lt1 : ∀ x ∈ p1, x.block < W.heap.size := by obtain ⟨m, hm⟩ := k1; exact DataW.trod_lt m _ _ _ hm
  obtain ⟨a0, w0⟩ := open_mat (hval 0 31 v0 rfl rfl) h0
  obtain ⟨a1, w1⟩ := open_mat (hval 1 31 v1 rfl rfl) h1
  clear hA0 hval0
  refine (walk a0 v0 a1 v1 W w0 w1).mono fun e W' ⟨he, bel⟩ => ?_
  subst he
  exact ⟨_, rfl, _, _, _, [], _, [], hW', trodAll_mk1 (shut_bool Try.underlying4 _), (trodAll_cons_mk (Below.trod laidOut (by kernel_rfl) (of_decide_eq_true (by kernel_rfl)) k0 bel lt0) (trodAll_cons_mk (Below.trod laidOut (by kernel_rfl) (of_decide_eq_true (by kernel_rfl)) k1 bel lt1) trodAll_mk0)), rfl, bel.frame _, fun h => by cases h⟩

theorem proved : Rows.LayerReluSaid :=
  OpenClaim.holds_of_wide 9 Try.f9 rfl rfl rfl rfl rfl rfl rfl ⟨rfl, rfl, rfl, rfl, rfl⟩ rfl rfl rfl rfl rfl (by kernel_rfl) Try.func9 (by kernel_rfl)
    (of_decide_eq_true (by kernel_rfl)) (by unfold Func.isWrapper; first | (rw [if_pos (by decide +kernel)]; kernel_rfl) | (rw [if_neg (by decide +kernel)]; exact ⟨rfl, rfl⟩))
    (fun os started H enc _ => lifted os started H enc)
#print axioms proved

end Go.Proofs.Ytlfeijffjpjnnaa.lawLayerRelu
