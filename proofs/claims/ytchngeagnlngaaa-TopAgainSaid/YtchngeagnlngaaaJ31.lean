/- Texts joined: Lay10. -/
import Derived.Test.YtchngeagnlngaaaJ30
import Derived.Deep.DeepCutAuto
section
set_option linter.unusedVariables false
set_option linter.unusedSimpArgs false
namespace Go.Proofs.Ytchngeagnlngaaa
open Go.RowKit Gal
set_option maxRecDepth 100000
set_option maxHeartbeats 4000000
theorem m_back_1 (w : World) : (Go.method 335 201 (.agg #[]) "galley/layer.back").run Try.prog w = .ok (134, .agg #[]) w := by kernel_rfl
theorem n_back_1 (w : World) : (Go.nilAhead 335 201 (.agg #[]) "galley/layer.back").run Try.prog w = .ok (some false) w := by kernel_rfl
theorem m_back_2 (w : World) : (Go.method 335 204 (.agg #[]) "galley/layer.back").run Try.prog w = .ok (148, .agg #[]) w := by kernel_rfl
theorem n_back_2 (w : World) : (Go.nilAhead 335 204 (.agg #[]) "galley/layer.back").run Try.prog w = .ok (some false) w := by kernel_rfl
theorem m_back_3 (w : World) : (Go.method 335 205 (.agg #[]) "galley/layer.back").run Try.prog w = .ok (154, .agg #[]) w := by kernel_rfl
theorem n_back_3 (w : World) : (Go.nilAhead 335 205 (.agg #[]) "galley/layer.back").run Try.prog w = .ok (some false) w := by kernel_rfl
theorem m_back_4 (w : World) : (Go.method 335 206 (.agg #[]) "galley/layer.back").run Try.prog w = .ok (158, .agg #[]) w := by kernel_rfl
theorem n_back_4 (w : World) : (Go.nilAhead 335 206 (.agg #[]) "galley/layer.back").run Try.prog w = .ok (some false) w := by kernel_rfl
def orGrd (f : Int) (d : Grd) : Grd := if f = 0 then d else Grd.none
theorem orGrd_ok {f : Int} {d : Grd} (h : f = 0) : orGrd f d = d := if_pos h
theorem orGrd_bad {f : Int} {d : Grd} (h : f ≠ 0) : orGrd f d = Grd.none := if_neg h
def BackPost (w : World) (l : Lay) (x g : Mat) (e : Ending) (w' : World) : Prop :=
 ∃ y d, e = .returned (.tuple #[y, d, errV (l.backFault x g)]) ∧ MatNew w.heap.size w' y (orNone (l.backFault x g) (l.back x g)) ∧ GrdNew w.heap.size w' d (orGrd (l.backFault x g) (l.grad x g)) ∧ Below w.heap.size w w'
theorem backPost_bad {w w' : World} {l : Lay} {x g : Mat} {f : Int} (hf : l.backFault x g = f) (h0 : f ≠ 0) (hb : Below w.heap.size w w') :
  BackPost w l x g (.returned (.tuple #[.agg #[.int .i64 0, .int .i64 0, .slice none 0 0], .agg #[.int .i64 0, .int .i64 0, .slice none 0 0, .int .i64 0, .int .i64 0, .slice none 0 0], .iface 62 (.int .i64 f)])) w' := by
 subst hf
 exact ⟨_, _, by rw [errV_err h0], by rw [orNone_bad h0]; exact none_new _ _, by rw [orGrd_bad h0]; exact noGrd _ _, hb⟩
section
variable (l : Lay) (x g : Mat) (a a' a2 a3 : Option Addr) (n n' n2 n3 k k' k2 k3 b b' b2 b3 o o' o2 o3 : Nat) (w : World) (x0 : IntsAt w a n k b o l.W.cells) (x1 : IntsAt w a' n' k' b' o' l.B.cells) (x2 : IntsAt w a2 n2 k2 b2 o2 x.cells) (x3 : IntsAt w a3 n3 k3 b3 o3 g.cells)
include x0 x1 x2 x3
theorem layBack_bad1 (hf : l.goFault x ≠ 0) :
  Calls Try.prog 35 #[.agg #[.int .i64 l.kind, .int .i64 l.W.rows, .int .i64 l.W.cols, .slice a n k, .int .i64 l.B.rows, .int .i64 l.B.cols, .slice a' n' k'], .agg #[.int .i64 x.rows, .int .i64 x.cols, .slice a2 n2 k2], .agg #[.int .i64 g.rows, .int .i64 g.cols, .slice a3 n3 k3]] w (BackPost w l x g)
 := by
 have HB : Hid (l.backFault x g = l.goFault x) := Lib.hid (by unfold Lay.backFault; rw [if_pos hf])
 have HN := Lib.hid hf
 have HE := Lib.hid (show errV (l.goFault x) = .iface 62 (.int .i64 (l.goFault x)) from errV_err hf)
 clear hf
 go_enter Try.func35, Try.ntmps35
 go_wp2_with fail
 refine (layEnter_any l x _ _ _ ⟨_, _, _, _, _, _, _, _, _, _, rfl, x0.alloc _ |>.alloc _ |>.alloc _ |>.alloc _ |>.alloc _, x1.alloc _ |>.alloc _ |>.alloc _ |>.alloc _ |>.alloc _⟩ (MatAt.mk (x2.alloc _ |>.alloc _ |>.alloc _ |>.alloc _ |>.alloc _))).mono ?_
 rw [HE.out]
 rintro e w1 ⟨rfl, hb1⟩
 have B0 := ((show Box _ w.heap.size [.int .i64 l.kind, .int .i64 l.W.rows, .int .i64 l.W.cols, .slice a n k, .int .i64 l.B.rows, .int .i64 l.B.cols, .slice a' n' k'] 69 from Box.x0)).keep hb1
 have B0c := B0.cell
 have B0f := B0.thawed
 have B0z := B0.lt
 have B0k := lt_add B0z
 have B1 := ((show Box _ (w.heap.size + 1) [.int .i64 x.rows, .int .i64 x.cols, .slice a2 n2 k2] 28 from Box.x0)).keep hb1
 have B1c := B1.cell
 have B1f := B1.thawed
 have B1z := B1.lt
 have B1k := lt_add B1z
 have B2 := ((show Box _ (w.heap.size + 1 + 1) [.int .i64 g.rows, .int .i64 g.cols, .slice a3 n3 k3] 28 from Box.x0)).keep hb1
 have B2c := B2.cell
 have B2f := B2.thawed
 have B2z := B2.lt
 have B2k := lt_add B2z
 have B3 := ((show Box _ (w.heap.size + 1 + 1 + 1) [.int .i64 0, .int .i64 0, .slice none 0 0] 28 from Box.x0)).keep hb1
 have B3c := B3.cell
 have B3f := B3.thawed
 have B3z := B3.lt
 have B3k := lt_add B3z
 have B4 := ((show Box _ (w.heap.size + 1 + 1 + 1 + 1) [.int .i64 0, .int .i64 0, .slice none 0 0, .int .i64 0, .int .i64 0, .slice none 0 0] 93 from Box.x0)).keep hb1
 have B4c := B4.cell
 have B4f := B4.thawed
 have B4z := B4.lt
 have B4k := lt_add B4z
 have hkw1 : Below w.heap.size w w1 := (Below.x1 hb1)
 replace x0 := x0.keep hkw1
 replace x1 := x1.keep hkw1
 replace x2 := x2.keep hkw1
 replace x3 := x3.keep hkw1
 have hsw1 := hkw1.size
 go_wp2
 exact bodyPost_ret (v := .tuple #[.agg #[.int .i64 0, .int .i64 0, .slice none 0 0], .agg #[.int .i64 0, .int .i64 0, .slice none 0 0, .int .i64 0, .int .i64 0, .slice none 0 0], .iface 62 (.int .i64 (l.goFault x))]) (by simp [results, Try.results35, go_sem, B3c, B4c]) rfl (backPost_bad HB.out HN.out (Below.x1 hb1))
theorem layBack_bad2 (h1 : l.goFault x = 0) (hf : g.fault ≠ 0) :
  Calls Try.prog 35 #[.agg #[.int .i64 l.kind, .int .i64 l.W.rows, .int .i64 l.W.cols, .slice a n k, .int .i64 l.B.rows, .int .i64 l.B.cols, .slice a' n' k'], .agg #[.int .i64 x.rows, .int .i64 x.cols, .slice a2 n2 k2], .agg #[.int .i64 g.rows, .int .i64 g.cols, .slice a3 n3 k3]] w (BackPost w l x g)
 := by
 have HB : Hid (l.backFault x g = g.fault) := Lib.hid (by unfold Lay.backFault; rw [if_neg (by simp [h1]), if_pos hf])
 have HN := Lib.hid hf
 have HE := Lib.hid (show errV (l.goFault x) = .nilIface from errV_nil h1)
 have HE2 := Lib.hid (show errV (matFault g.rows g.cols g.cells) = .iface 62 (.int .i64 g.fault) from errV_err hf)
 clear hf h1
 go_enter Try.func35, Try.ntmps35
 go_wp2_with fail
 refine (layEnter_any l x _ _ _ ⟨_, _, _, _, _, _, _, _, _, _, rfl, x0.alloc _ |>.alloc _ |>.alloc _ |>.alloc _ |>.alloc _, x1.alloc _ |>.alloc _ |>.alloc _ |>.alloc _ |>.alloc _⟩ (MatAt.mk (x2.alloc _ |>.alloc _ |>.alloc _ |>.alloc _ |>.alloc _))).mono ?_
 rw [HE.out]
 rintro e w1 ⟨rfl, hb1⟩
 have B0 := ((show Box _ w.heap.size [.int .i64 l.kind, .int .i64 l.W.rows, .int .i64 l.W.cols, .slice a n k, .int .i64 l.B.rows, .int .i64 l.B.cols, .slice a' n' k'] 69 from Box.x0)).keep hb1
 have B0c := B0.cell
 have B0f := B0.thawed
 have B0z := B0.lt
 have B0k := lt_add B0z
 have B1 := ((show Box _ (w.heap.size + 1) [.int .i64 x.rows, .int .i64 x.cols, .slice a2 n2 k2] 28 from Box.x0)).keep hb1
 have B1c := B1.cell
 have B1f := B1.thawed
 have B1z := B1.lt
 have B1k := lt_add B1z
 have B2 := ((show Box _ (w.heap.size + 1 + 1) [.int .i64 g.rows, .int .i64 g.cols, .slice a3 n3 k3] 28 from Box.x0)).keep hb1
 have B2c := B2.cell
 have B2f := B2.thawed
 have B2z := B2.lt
 have B2k := lt_add B2z
 have B3 := ((show Box _ (w.heap.size + 1 + 1 + 1) [.int .i64 0, .int .i64 0, .slice none 0 0] 28 from Box.x0)).keep hb1
 have B3c := B3.cell
 have B3f := B3.thawed
 have B3z := B3.lt
 have B3k := lt_add B3z
 have B4 := ((show Box _ (w.heap.size + 1 + 1 + 1 + 1) [.int .i64 0, .int .i64 0, .slice none 0 0, .int .i64 0, .int .i64 0, .slice none 0 0] 93 from Box.x0)).keep hb1
 have B4c := B4.cell
 have B4f := B4.thawed
 have B4z := B4.lt
 have B4k := lt_add B4z
 have hkw1 : Below w.heap.size w w1 := (Below.x1 hb1)
 replace x0 := x0.keep hkw1
 replace x1 := x1.keep hkw1
 replace x2 := x2.keep hkw1
 replace x3 := x3.keep hkw1
 have hsw1 := hkw1.size
 go_wp2_with fail
 refine (matCheck_any _ _ _ _ _ _ _ g.cells _ x3).mono ?_
 rw [HE2.out]
 rintro e w2 ⟨rfl, hb2⟩
 have hkw2 : Below w1.heap.size w1 w2 := (Below.x1 hb2)
 replace B3 := B3.keep hkw2
 replace B3c := B3.cell
 replace B3f := B3.thawed
 replace B3z := B3.lt
 replace B3k := lt_add B3z
 replace B4 := B4.keep hkw2
 replace B4c := B4.cell
 replace B4f := B4.thawed
 replace B4z := B4.lt
 replace B4k := lt_add B4z
 have hsw2 := hkw2.size
 go_wp2
 exact bodyPost_ret (v := .tuple #[.agg #[.int .i64 0, .int .i64 0, .slice none 0 0], .agg #[.int .i64 0, .int .i64 0, .slice none 0 0, .int .i64 0, .int .i64 0, .slice none 0 0], .iface 62 (.int .i64 (g.fault))]) (by simp [results, Try.results35, go_sem, B3c, B4c]) rfl (backPost_bad HB.out HN.out (Below.x2 hb2 hb1))
theorem layBack_bad3 (h1 : l.goFault x = 0) (h2 : g.fault = 0) (h3 : g.rows ≠ x.rows) :
  Calls Try.prog 35 #[.agg #[.int .i64 l.kind, .int .i64 l.W.rows, .int .i64 l.W.cols, .slice a n k, .int .i64 l.B.rows, .int .i64 l.B.cols, .slice a' n' k'], .agg #[.int .i64 x.rows, .int .i64 x.cols, .slice a2 n2 k2], .agg #[.int .i64 g.rows, .int .i64 g.cols, .slice a3 n3 k3]] w (BackPost w l x g)
 := by
 have q1 : (g.rows != x.rows) = true := by simp [h3]
 have HB : Hid (l.backFault x g = 2) := Lib.hid (by unfold Lay.backFault; rw [if_neg (by simp [h1]), if_neg (by simp [h2]), if_pos (Or.inl h3)])
 have HN : Hid ((2 : Int) ≠ 0) := Lib.hid (by decide)
 have HE := Lib.hid (show errV (l.goFault x) = .nilIface from errV_nil h1)
 have HE2 := Lib.hid (show errV (matFault g.rows g.cols g.cells) = .nilIface from errV_nil h2)
 have HK := Lib.hid (okOr_ok (x := l.wide x.cols) h1)
 clear h1 h2 h3
 go_enter Try.func35, Try.ntmps35
 go_wp2_with fail
 refine (layEnter_any l x _ _ _ ⟨_, _, _, _, _, _, _, _, _, _, rfl, x0.alloc _ |>.alloc _ |>.alloc _ |>.alloc _ |>.alloc _, x1.alloc _ |>.alloc _ |>.alloc _ |>.alloc _ |>.alloc _⟩ (MatAt.mk (x2.alloc _ |>.alloc _ |>.alloc _ |>.alloc _ |>.alloc _))).mono ?_
 rw [HE.out, HK.out]
 rintro e w1 ⟨rfl, hb1⟩
 have B0 := ((show Box _ w.heap.size [.int .i64 l.kind, .int .i64 l.W.rows, .int .i64 l.W.cols, .slice a n k, .int .i64 l.B.rows, .int .i64 l.B.cols, .slice a' n' k'] 69 from Box.x0)).keep hb1
 have B0c := B0.cell
 have B0f := B0.thawed
 have B0z := B0.lt
 have B0k := lt_add B0z
 have B1 := ((show Box _ (w.heap.size + 1) [.int .i64 x.rows, .int .i64 x.cols, .slice a2 n2 k2] 28 from Box.x0)).keep hb1
 have B1c := B1.cell
 have B1f := B1.thawed
 have B1z := B1.lt
 have B1k := lt_add B1z
 have B2 := ((show Box _ (w.heap.size + 1 + 1) [.int .i64 g.rows, .int .i64 g.cols, .slice a3 n3 k3] 28 from Box.x0)).keep hb1
 have B2c := B2.cell
 have B2f := B2.thawed
 have B2z := B2.lt
 have B2k := lt_add B2z
 have B3 := ((show Box _ (w.heap.size + 1 + 1 + 1) [.int .i64 0, .int .i64 0, .slice none 0 0] 28 from Box.x0)).keep hb1
 have B3c := B3.cell
 have B3f := B3.thawed
 have B3z := B3.lt
 have B3k := lt_add B3z
 have B4 := ((show Box _ (w.heap.size + 1 + 1 + 1 + 1) [.int .i64 0, .int .i64 0, .slice none 0 0, .int .i64 0, .int .i64 0, .slice none 0 0] 93 from Box.x0)).keep hb1
 have B4c := B4.cell
 have B4f := B4.thawed
 have B4z := B4.lt
 have B4k := lt_add B4z
 have hkw1 : Below w.heap.size w w1 := (Below.x1 hb1)
 replace x0 := x0.keep hkw1
 replace x1 := x1.keep hkw1
 replace x2 := x2.keep hkw1
 replace x3 := x3.keep hkw1
 have hsw1 := hkw1.size
 go_wp2_with fail
 refine (matCheck_any _ _ _ _ _ _ _ g.cells _ x3).mono ?_
 rw [HE2.out]
 rintro e w2 ⟨rfl, hb2⟩
 have hkw2 : Below w1.heap.size w1 w2 := (Below.x1 hb2)
 replace B0 := B0.keep hkw2
 replace B0c := B0.cell
 replace B0f := B0.thawed
 replace B0z := B0.lt
 replace B0k := lt_add B0z
 replace B1 := B1.keep hkw2
 replace B1c := B1.cell
 replace B1f := B1.thawed
 replace B1z := B1.lt
 replace B1k := lt_add B1z
 replace B2 := B2.keep hkw2
 replace B2c := B2.cell
 replace B2f := B2.thawed
 replace B2z := B2.lt
 replace B2k := lt_add B2z
 replace B3 := B3.keep hkw2
 replace B3c := B3.cell
 replace B3f := B3.thawed
 replace B3z := B3.lt
 replace B3k := lt_add B3z
 replace B4 := B4.keep hkw2
 replace B4c := B4.cell
 replace B4f := B4.thawed
 replace B4z := B4.lt
 replace B4k := lt_add B4z
 have hsw2 := hkw2.size
 go_wp2
 exact bodyPost_ret (v := .tuple #[.agg #[.int .i64 0, .int .i64 0, .slice none 0 0], .agg #[.int .i64 0, .int .i64 0, .slice none 0 0, .int .i64 0, .int .i64 0, .slice none 0 0], .iface 62 (.int .i64 (2))]) (by simp [results, Try.results35, go_sem, B3c, B4c]) rfl (backPost_bad HB.out HN.out (Below.x2 hb2 hb1))
theorem layBack_bad4 (h1 : l.goFault x = 0) (h2 : g.fault = 0) (h3 : g.rows = x.rows) (h4 : g.cols ≠ l.wide x.cols) :
  Calls Try.prog 35 #[.agg #[.int .i64 l.kind, .int .i64 l.W.rows, .int .i64 l.W.cols, .slice a n k, .int .i64 l.B.rows, .int .i64 l.B.cols, .slice a' n' k'], .agg #[.int .i64 x.rows, .int .i64 x.cols, .slice a2 n2 k2], .agg #[.int .i64 g.rows, .int .i64 g.cols, .slice a3 n3 k3]] w (BackPost w l x g)
 := by
 have q1 : (g.rows != x.rows) = false := by simp [h3]
 have q2 : (g.cols != l.wide x.cols) = true := by simp [h4]
 have HB : Hid (l.backFault x g = 2) := Lib.hid (by unfold Lay.backFault; rw [if_neg (by simp [h1]), if_neg (by simp [h2]), if_pos (Or.inr h4)])
 have HN : Hid ((2 : Int) ≠ 0) := Lib.hid (by decide)
 have HE := Lib.hid (show errV (l.goFault x) = .nilIface from errV_nil h1)
 have HE2 := Lib.hid (show errV (matFault g.rows g.cols g.cells) = .nilIface from errV_nil h2)
 have HK := Lib.hid (okOr_ok (x := l.wide x.cols) h1)
 clear h1 h2 h3 h4
 go_enter Try.func35, Try.ntmps35
 go_wp2_with fail
 refine (layEnter_any l x _ _ _ ⟨_, _, _, _, _, _, _, _, _, _, rfl, x0.alloc _ |>.alloc _ |>.alloc _ |>.alloc _ |>.alloc _, x1.alloc _ |>.alloc _ |>.alloc _ |>.alloc _ |>.alloc _⟩ (MatAt.mk (x2.alloc _ |>.alloc _ |>.alloc _ |>.alloc _ |>.alloc _))).mono ?_
 rw [HE.out, HK.out]
 rintro e w1 ⟨rfl, hb1⟩
 have B0 := ((show Box _ w.heap.size [.int .i64 l.kind, .int .i64 l.W.rows, .int .i64 l.W.cols, .slice a n k, .int .i64 l.B.rows, .int .i64 l.B.cols, .slice a' n' k'] 69 from Box.x0)).keep hb1
 have B0c := B0.cell
 have B0f := B0.thawed
 have B0z := B0.lt
 have B0k := lt_add B0z
 have B1 := ((show Box _ (w.heap.size + 1) [.int .i64 x.rows, .int .i64 x.cols, .slice a2 n2 k2] 28 from Box.x0)).keep hb1
 have B1c := B1.cell
 have B1f := B1.thawed
 have B1z := B1.lt
 have B1k := lt_add B1z
 have B2 := ((show Box _ (w.heap.size + 1 + 1) [.int .i64 g.rows, .int .i64 g.cols, .slice a3 n3 k3] 28 from Box.x0)).keep hb1
 have B2c := B2.cell
 have B2f := B2.thawed
 have B2z := B2.lt
 have B2k := lt_add B2z
 have B3 := ((show Box _ (w.heap.size + 1 + 1 + 1) [.int .i64 0, .int .i64 0, .slice none 0 0] 28 from Box.x0)).keep hb1
 have B3c := B3.cell
 have B3f := B3.thawed
 have B3z := B3.lt
 have B3k := lt_add B3z
 have B4 := ((show Box _ (w.heap.size + 1 + 1 + 1 + 1) [.int .i64 0, .int .i64 0, .slice none 0 0, .int .i64 0, .int .i64 0, .slice none 0 0] 93 from Box.x0)).keep hb1
 have B4c := B4.cell
 have B4f := B4.thawed
 have B4z := B4.lt
 have B4k := lt_add B4z
 have hkw1 : Below w.heap.size w w1 := (Below.x1 hb1)
 replace x0 := x0.keep hkw1
 replace x1 := x1.keep hkw1
 replace x2 := x2.keep hkw1
 replace x3 := x3.keep hkw1
 have hsw1 := hkw1.size
 go_wp2_with fail
 refine (matCheck_any _ _ _ _ _ _ _ g.cells _ x3).mono ?_
 rw [HE2.out]
 rintro e w2 ⟨rfl, hb2⟩
 have hkw2 : Below w1.heap.size w1 w2 := (Below.x1 hb2)
 replace B0 := B0.keep hkw2
 replace B0c := B0.cell
 replace B0f := B0.thawed
 replace B0z := B0.lt
 replace B0k := lt_add B0z
 replace B1 := B1.keep hkw2
 replace B1c := B1.cell
 replace B1f := B1.thawed
 replace B1z := B1.lt
 replace B1k := lt_add B1z
 replace B2 := B2.keep hkw2
 replace B2c := B2.cell
 replace B2f := B2.thawed
 replace B2z := B2.lt
 replace B2k := lt_add B2z
 replace B3 := B3.keep hkw2
 replace B3c := B3.cell
 replace B3f := B3.thawed
 replace B3z := B3.lt
 replace B3k := lt_add B3z
 replace B4 := B4.keep hkw2
 replace B4c := B4.cell
 replace B4f := B4.thawed
 replace B4z := B4.lt
 replace B4k := lt_add B4z
 have hsw2 := hkw2.size
 go_wp2
 exact bodyPost_ret (v := .tuple #[.agg #[.int .i64 0, .int .i64 0, .slice none 0 0], .agg #[.int .i64 0, .int .i64 0, .slice none 0 0, .int .i64 0, .int .i64 0, .slice none 0 0], .iface 62 (.int .i64 (2))]) (by simp [results, Try.results35, go_sem, B3c, B4c]) rfl (backPost_bad HB.out HN.out (Below.x2 hb2 hb1))
theorem layBack_bad5 (h1 : l.goFault x = 0) (h2 : g.fault = 0) (h3 : g.rows = x.rows) (h4 : g.cols = l.wide x.cols) (h5 : l.kind = 1) (h6 : 12 < x.rows) :
  Calls Try.prog 35 #[.agg #[.int .i64 l.kind, .int .i64 l.W.rows, .int .i64 l.W.cols, .slice a n k, .int .i64 l.B.rows, .int .i64 l.B.cols, .slice a' n' k'], .agg #[.int .i64 x.rows, .int .i64 x.cols, .slice a2 n2 k2], .agg #[.int .i64 g.rows, .int .i64 g.cols, .slice a3 n3 k3]] w (BackPost w l x g)
 := by
 have q1 : (g.rows != x.rows) = false := by simp [h3]
 have q2 : (g.cols != l.wide x.cols) = false := by simp [h4]
 have q3 : (l.kind == 1) = true := by simp [h5]
 have HB : Hid (l.backFault x g = 1) := Lib.hid (by unfold Lay.backFault; rw [if_neg (by simp [h1]), if_neg (by simp [h2]), if_neg (by simp [h3, h4]), if_pos ⟨h5, h6⟩])
 have HN : Hid ((1 : Int) ≠ 0) := Lib.hid (by decide)
 have HE := Lib.hid (show errV (l.goFault x) = .nilIface from errV_nil h1)
 have HE2 := Lib.hid (show errV (matFault g.rows g.cols g.cells) = .nilIface from errV_nil h2)
 have HK := Lib.hid (okOr_ok (x := l.wide x.cols) h1)
 clear h1 h2 h3 h4 h5
 go_enter Try.func35, Try.ntmps35
 go_wp2_with fail
 refine (layEnter_any l x _ _ _ ⟨_, _, _, _, _, _, _, _, _, _, rfl, x0.alloc _ |>.alloc _ |>.alloc _ |>.alloc _ |>.alloc _, x1.alloc _ |>.alloc _ |>.alloc _ |>.alloc _ |>.alloc _⟩ (MatAt.mk (x2.alloc _ |>.alloc _ |>.alloc _ |>.alloc _ |>.alloc _))).mono ?_
 rw [HE.out, HK.out]
 rintro e w1 ⟨rfl, hb1⟩
 have B0 := ((show Box _ w.heap.size [.int .i64 l.kind, .int .i64 l.W.rows, .int .i64 l.W.cols, .slice a n k, .int .i64 l.B.rows, .int .i64 l.B.cols, .slice a' n' k'] 69 from Box.x0)).keep hb1
 have B0c := B0.cell
 have B0f := B0.thawed
 have B0z := B0.lt
 have B0k := lt_add B0z
 have B1 := ((show Box _ (w.heap.size + 1) [.int .i64 x.rows, .int .i64 x.cols, .slice a2 n2 k2] 28 from Box.x0)).keep hb1
 have B1c := B1.cell
 have B1f := B1.thawed
 have B1z := B1.lt
 have B1k := lt_add B1z
 have B2 := ((show Box _ (w.heap.size + 1 + 1) [.int .i64 g.rows, .int .i64 g.cols, .slice a3 n3 k3] 28 from Box.x0)).keep hb1
 have B2c := B2.cell
 have B2f := B2.thawed
 have B2z := B2.lt
 have B2k := lt_add B2z
 have B3 := ((show Box _ (w.heap.size + 1 + 1 + 1) [.int .i64 0, .int .i64 0, .slice none 0 0] 28 from Box.x0)).keep hb1
 have B3c := B3.cell
 have B3f := B3.thawed
 have B3z := B3.lt
 have B3k := lt_add B3z
 have B4 := ((show Box _ (w.heap.size + 1 + 1 + 1 + 1) [.int .i64 0, .int .i64 0, .slice none 0 0, .int .i64 0, .int .i64 0, .slice none 0 0] 93 from Box.x0)).keep hb1
 have B4c := B4.cell
 have B4f := B4.thawed
 have B4z := B4.lt
 have B4k := lt_add B4z
 have hkw1 : Below w.heap.size w w1 := (Below.x1 hb1)
 replace x0 := x0.keep hkw1
 replace x1 := x1.keep hkw1
 replace x2 := x2.keep hkw1
 replace x3 := x3.keep hkw1
 have hsw1 := hkw1.size
 go_wp2_with fail
 refine (matCheck_any _ _ _ _ _ _ _ g.cells _ x3).mono ?_
 rw [HE2.out]
 rintro e w2 ⟨rfl, hb2⟩
 have hkw2 : Below w1.heap.size w1 w2 := (Below.x1 hb2)
 replace B0 := B0.keep hkw2
 replace B0c := B0.cell
 replace B0f := B0.thawed
 replace B0z := B0.lt
 replace B0k := lt_add B0z
 replace B1 := B1.keep hkw2
 replace B1c := B1.cell
 replace B1f := B1.thawed
 replace B1z := B1.lt
 replace B1k := lt_add B1z
 replace B2 := B2.keep hkw2
 replace B2c := B2.cell
 replace B2f := B2.thawed
 replace B2z := B2.lt
 replace B2k := lt_add B2z
 replace B3 := B3.keep hkw2
 replace B3c := B3.cell
 replace B3f := B3.thawed
 replace B3z := B3.lt
 replace B3k := lt_add B3z
 replace B4 := B4.keep hkw2
 replace B4c := B4.cell
 replace B4f := B4.thawed
 replace B4z := B4.lt
 replace B4k := lt_add B4z
 have hsw2 := hkw2.size
 go_wp2
 exact bodyPost_ret (v := .tuple #[.agg #[.int .i64 0, .int .i64 0, .slice none 0 0], .agg #[.int .i64 0, .int .i64 0, .slice none 0 0, .int .i64 0, .int .i64 0, .slice none 0 0], .iface 62 (.int .i64 (1))]) (by simp [results, Try.results35, go_sem, B3c, B4c]) rfl (backPost_bad HB.out HN.out (Below.x2 hb2 hb1))
end
end Go.Proofs.Ytchngeagnlngaaa
end
