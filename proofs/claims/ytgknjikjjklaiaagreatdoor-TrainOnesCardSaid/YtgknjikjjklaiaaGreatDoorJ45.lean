/- Texts joined: RLay4, RLay5. -/
import Derived.Test.YtgknjikjjklaiaaGreatDoorJ43
import Derived.Test.YtgknjikjjklaiaaGreatDoorJ33
import Derived.Deep.DeepCutAuto
section
set_option linter.unusedVariables false
set_option linter.unusedSimpArgs false
namespace Go.Proofs.YtgknjikjjklaiaaGreatDoor
open Go.RowKit Gal
set_option linter.unusedSectionVars false
set_option maxRecDepth 100000
set_option maxHeartbeats 4000000
theorem refBackOf_1 (W B x g : Mat)
  (a a' a2 a3 : Option Addr) (n n' n2 n3 k k' k2 k3 b b' b2 b3 o o' o2 o3 : Nat) (w : World) (x0 : IntsAt w a n k b o W.cells) (x1 : IntsAt w a' n' k' b' o' B.cells) (x2 : IntsAt w a2 n2 k2 b2 o2 x.cells) (x3 : IntsAt w a3 n3 k3 b3 o3 g.cells)
  (hg : Backs ⟨1, W, B⟩ x g) :
  Calls Tryz.prog 41 #[.agg #[.int .i64 1, .int .i64 W.rows, .int .i64 W.cols, .slice a n k, .int .i64 B.rows, .int .i64 B.cols, .slice a' n' k'], .agg #[.int .i64 x.rows, .int .i64 x.cols, .slice a2 n2 k2], .agg #[.int .i64 g.rows, .int .i64 g.cols, .slice a3 n3 k3]] w fun e w' =>
   ∃ v d, e = .returned (.tuple #[v, d]) ∧ MatNew w.heap.size w' v (Lay.back ⟨1, W, B⟩ x g) ∧ GrdNew w.heap.size w' d (Lay.grad ⟨1, W, B⟩ x g) ∧ Below w.heap.size w w'
 := by
 have hbk : Lay.back ⟨1, W, B⟩ x g = matMul g (matTurn W) := by simp [Lay.back]
 have hgr : Lay.grad ⟨1, W, B⟩ x g = ⟨matMul (matTurn x) g, matSums g⟩ := by simp [Lay.grad]
 obtain ⟨_, _, fw, fb, ft⟩ := Lay.fault_ok hg.goes.lay
 have hW12 : W.rows ≤ 12 := by unfold Lay.fits at ft; dsimp only at ft; omega
 have hx12 : x.rows ≤ 12 := hg.small rfl
 have hc : g.cols = W.cols := by rw [hg.cols]; exact if_pos rfl
 have HTW := Lib.hid fw
 have HTX := Lib.hid hg.goes.mat
 have HM1 : Hid (mulFault g (matTurn W) = 0) := Lib.hid (mulFault_zero hg.mat (turn_fault' fw hW12) hc)
 have HM2 : Hid (mulFault (matTurn x) g = 0) := Lib.hid (mulFault_zero (turn_fault' hg.goes.mat hx12) hg.mat hg.rows.symm)
 have HF := Lib.hid hg.mat
 rw [hbk, hgr]
 clear hbk hgr fw fb ft hW12 hx12 hc hg
 have l0 : 0 < n → b < w.heap.size := x0.lt
 have l2 : 0 < n2 → b2 < w.heap.size := x2.lt
 have l3 : 0 < n3 → b3 < w.heap.size := x3.lt
 go_enter Tryz.func41, Tryz.ntmps41
 go_wp2_with fail
 refine (refMatTurn_all W _ _ (MatAt.mk (x0.alloc _ |>.alloc _ |>.alloc _ |>.alloc _ |>.alloc _ |>.alloc _)) HTW.out).mono ?_
 rintro e w1 ⟨v1, rfl, ⟨c1, m1, p1, q1, r1, rfl, hn1, y1⟩, hb1⟩
 have B0 := ((show Box _ w.heap.size [.int .i64 1, .int .i64 W.rows, .int .i64 W.cols, .slice a n k, .int .i64 B.rows, .int .i64 B.cols, .slice a' n' k'] 82 from Box.x0)).keep hb1
 have B0c := B0.cell
 have B0f := B0.thawed
 have B0z := B0.lt
 have B0k := lt_add B0z
 have B1 := ((show Box _ (w.heap.size + 1) [.int .i64 x.rows, .int .i64 x.cols, .slice a2 n2 k2] 25 from Box.x0)).keep hb1
 have B1c := B1.cell
 have B1f := B1.thawed
 have B1z := B1.lt
 have B1k := lt_add B1z
 have B2 := ((show Box _ (w.heap.size + 1 + 1) [.int .i64 g.rows, .int .i64 g.cols, .slice a3 n3 k3] 25 from Box.x0)).keep hb1
 have B2c := B2.cell
 have B2f := B2.thawed
 have B2z := B2.lt
 have B2k := lt_add B2z
 have B3 := ((show Box _ (w.heap.size + 1 + 1 + 1) [.int .i64 0, .int .i64 0, .slice none 0 0] 25 from Box.x0)).keep hb1
 have B3c := B3.cell
 have B3f := B3.thawed
 have B3z := B3.lt
 have B3k := lt_add B3z
 have B4 := ((show Box _ (w.heap.size + 1 + 1 + 1 + 1) [.int .i64 0, .int .i64 0, .slice none 0 0, .int .i64 0, .int .i64 0, .slice none 0 0] 84 from Box.x0)).keep hb1
 have B4c := B4.cell
 have B4f := B4.thawed
 have B4z := B4.lt
 have B4k := lt_add B4z
 have B5 := ((show Box _ (w.heap.size + 1 + 1 + 1 + 1 + 1) [.int .i64 0, .int .i64 0, .slice none 0 0, .int .i64 0, .int .i64 0, .slice none 0 0] 84 from Box.x0)).keep hb1
 have B5c := B5.cell
 have B5f := B5.thawed
 have B5z := B5.lt
 have B5k := lt_add B5z
 have hkw1 : Below w.heap.size w w1 := (Below.x1 hb1)
 replace x2 := x2.keep hkw1
 replace x3 := x3.keep hkw1
 have hsw1 := hkw1.size
 have hz1 : w.heap.size + 1 + 1 + 1 + 1 + 1 < w1.heap.size := B5z
 go_wp2_with fail
 refine (refMatTurn_all x _ _ (MatAt.mk (x2.alloc _)) HTX.out).mono ?_
 rintro e w2 ⟨v2, rfl, ⟨c2, m2, p2, q2, r2, rfl, hn2, y2⟩, hb2⟩
 have Q1 := (Box.new w1 [.int .i64 (matTurn W).rows, .int .i64 (matTurn W).cols, .slice c1 m1 p1] 25).keep hb2
 have Q1c := Q1.cell
 have Q1f := Q1.thawed
 have Q1z := Q1.lt
 have Q1k := lt_add Q1z
 have hkw2 : Below w1.heap.size w1 w2 := (Below.x1 hb2)
 replace B2 := B2.keep hkw2
 replace B2c := B2.cell
 replace B2f := B2.thawed
 replace B2z := B2.lt
 replace B2k := lt_add B2z
 replace B3 := B3.keep hkw2
 replace B3c := B3.cell
 replace B3f := B3.thawed
 replace B3z := B3.lt
 replace B3k := lt_add B3z
 replace B4 := B4.keep hkw2
 replace B4c := B4.cell
 replace B4f := B4.thawed
 replace B4z := B4.lt
 replace B4k := lt_add B4z
 replace B5 := B5.keep hkw2
 replace B5c := B5.cell
 replace B5f := B5.thawed
 replace B5z := B5.lt
 replace B5k := lt_add B5z
 replace x3 := x3.keep hkw2
 replace y1 := y1.keep hkw2
 have hsw2 := hkw2.size
 go_wp2_with fail
 refine (refMatMul_all (matTurn x) g _ _ _ (MatAt.mk (y2.alloc _)) (MatAt.mk (x3.alloc _)) HM2.out).mono ?_
 rintro e w3 ⟨v3, rfl, ⟨c3, m3, p3, q3, r3, rfl, hn3, y3⟩, hb3⟩
 have hkw3 : Below w2.heap.size w2 w3 := (Below.x1 hb3)
 replace B2 := B2.keep hkw3
 replace B2c := B2.cell
 replace B2f := B2.thawed
 replace B2z := B2.lt
 replace B2k := lt_add B2z
 replace B3 := B3.keep hkw3
 replace B3c := B3.cell
 replace B3f := B3.thawed
 replace B3z := B3.lt
 replace B3k := lt_add B3z
 replace B4 := B4.keep hkw3
 replace B4c := B4.cell
 replace B4f := B4.thawed
 replace B4z := B4.lt
 replace B4k := lt_add B4z
 replace B5 := B5.keep hkw3
 replace B5c := B5.cell
 replace B5f := B5.thawed
 replace B5z := B5.lt
 replace B5k := lt_add B5z
 replace Q1 := Q1.keep hkw3
 replace Q1c := Q1.cell
 replace Q1f := Q1.thawed
 replace Q1z := Q1.lt
 replace Q1k := lt_add Q1z
 replace x3 := x3.keep hkw3
 replace y1 := y1.keep hkw3
 have hsw3 := hkw3.size
 have e1 : 0 < m1 → w.heap.size + 1 + 1 + 1 + 1 + 1 < q1 := fun h => by have := hn1 h; simp at this; omega
 have e3 : 0 < m3 → w.heap.size + 1 + 1 + 1 + 1 + 1 < q3 := fun h => by have := hn3 h; simp at this; omega
 go_wp2_with fail
 refine (refMatSums_all g _ _ (MatAt.mk (show IntsAt _ a3 n3 k3 b3 o3 g.cells from (by repeat (first | (with_reducible first | exact x3 | refine IntsAt.alloc ?_ _ | refine IntsAt.drewN ?_ _ | refine IntsAt.drew ?_ | (refine IntsAt.set ?_ ?_ _; rotate_left 1; (intro h0; have hq0 := l3 h0; first | (dsimp only; omega) | omega | (simp; omega) | simp))) | exact x3)))) HF.out).mono ?_
 rintro e w4 ⟨v4, rfl, ⟨c4, m4, p4, q4, r4, rfl, hn4, y4⟩, hb4⟩
 have hfr : Far (· = w.heap.size + 1 + 1 + 1 + 1 + 1) w3 w4 := ((((Far.refl (· = w.heap.size + 1 + 1 + 1 + 1 + 1) w3).st (a := ⟨w.heap.size + 1 + 1 + 1 + 1 + 1, 0, none⟩) (fun _ => rfl) _).st (a := ⟨w.heap.size + 1 + 1 + 1 + 1 + 1, 1, none⟩) (fun _ => rfl) _).st (a := ⟨w.heap.size + 1 + 1 + 1 + 1 + 1, 2, none⟩) (fun _ => rfl) _).go hb4
 have D5 : Box w4 (w.heap.size + 1 + 1 + 1 + 1 + 1) [.int .i64 (matMul (matTurn x) g).rows, .int .i64 (matMul (matTurn x) g).cols, .slice c3 m3 p3, .int .i64 0, .int .i64 0, .slice none 0 0] 84 := (((B5.set 0 _).set 1 _).set 2 _).keep hb4
 have D5c := D5.cell
 have D5f := D5.thawed
 have D5z := D5.lt
 clear B5 B5c B5f B5z B5k
 replace B2 := B2.farS hfr (by omega)
 have B2c := B2.cell
 have B2f := B2.thawed
 have B2z := B2.lt
 have B2k := lt_add B2z
 replace B3 := B3.farS hfr (by omega)
 have B3c := B3.cell
 have B3f := B3.thawed
 have B3z := B3.lt
 have B3k := lt_add B3z
 replace B4 := B4.farS hfr (by omega)
 have B4c := B4.cell
 have B4f := B4.thawed
 have B4z := B4.lt
 have B4k := lt_add B4z
 replace Q1 := Q1.farS hfr (by omega)
 have Q1c := Q1.cell
 have Q1f := Q1.thawed
 have Q1z := Q1.lt
 have Q1k := lt_add Q1z
 replace x3 := x3.farS hfr (by intro h e; have := l3 h; omega)
 replace y1 := y1.farS hfr (by intro h e; have := e1 h; omega)
 replace y3 := y3.farS hfr (by intro h e; have := e3 h; omega)
 have hs4 := hfr.size
 clear hfr
 go_wp2_with fail
 refine (refMatMul_all g (matTurn W) _ _ _ (MatAt.mk (show IntsAt _ a3 n3 k3 b3 o3 g.cells from (by repeat (first | (with_reducible first | exact x3 | refine IntsAt.alloc ?_ _ | refine IntsAt.drewN ?_ _ | refine IntsAt.drew ?_ | (refine IntsAt.set ?_ ?_ _; rotate_left 1; (intro h0; have hq0 := l3 h0; first | (dsimp only; omega) | omega | (simp; omega) | simp))) | exact x3)))) (MatAt.mk (show IntsAt _ c1 m1 p1 q1 r1 (matTurn W).cells from (by repeat (first | (with_reducible first | exact y1 | refine IntsAt.alloc ?_ _ | refine IntsAt.drewN ?_ _ | refine IntsAt.drew ?_ | (refine IntsAt.set ?_ ?_ _; rotate_left 1; (intro h0; have hq0 := e1 h0; first | (dsimp only; omega) | omega | (simp; omega) | simp))) | exact y1)))) HM1.out).mono ?_
 rintro e w5 ⟨v5, rfl, ⟨c5, m5, p5, q5, r5, rfl, hn5, y5⟩, hb5⟩
 have hfr : Far (· = w.heap.size + 1 + 1 + 1 + 1 + 1) w4 w5 := ((((Far.refl (· = w.heap.size + 1 + 1 + 1 + 1 + 1) w4).st (a := ⟨w.heap.size + 1 + 1 + 1 + 1 + 1, 3, none⟩) (fun _ => rfl) _).st (a := ⟨w.heap.size + 1 + 1 + 1 + 1 + 1, 4, none⟩) (fun _ => rfl) _).st (a := ⟨w.heap.size + 1 + 1 + 1 + 1 + 1, 5, none⟩) (fun _ => rfl) _).go hb5
 have e4 : 0 < m4 → w.heap.size + 1 + 1 + 1 + 1 + 1 < q4 := fun h => by have := hn4 h; simp [World.setCell] at this; omega
 have e5 : 0 < m5 → w.heap.size + 1 + 1 + 1 + 1 + 1 < q5 := fun h => by have := hn5 h; simp [World.setCell] at this; omega
 have E5 : Box w5 (w.heap.size + 1 + 1 + 1 + 1 + 1) [.int .i64 (matMul (matTurn x) g).rows, .int .i64 (matMul (matTurn x) g).cols, .slice c3 m3 p3, .int .i64 (matSums g).rows, .int .i64 (matSums g).cols, .slice c4 m4 p4] 84 := (((D5.set 3 _).set 4 _).set 5 _).keep hb5
 clear D5 D5c D5f D5z
 replace B3 := B3.farS hfr (by omega)
 have B3c := B3.cell
 have B3f := B3.thawed
 have B3z := B3.lt
 have B3k := lt_add B3z
 replace B4 := B4.farS hfr (by omega)
 have B4c := B4.cell
 have B4f := B4.thawed
 have B4z := B4.lt
 have B4k := lt_add B4z
 replace y3 := y3.farS hfr (by intro h e; have := e3 h; omega)
 replace y4 := y4.farS hfr (by intro h e; have := e4 h; omega)
 have hs5 := hfr.size
 clear hfr
 go_wp2_with fail
 have Q5 : Box (w5.alloc (.cells #[.int .i64 (matMul g (matTurn W)).rows, .int .i64 (matMul g (matTurn W)).cols, .slice c5 m5 p5] 25)) w5.heap.size [.int .i64 (matMul g (matTurn W)).rows, .int .i64 (matMul g (matTurn W)).cols, .slice c5 m5 p5] 25 := Box.new _ _ _
 have hz5 : w.heap.size + 1 + 1 + 1 + 1 + 1 < w5.heap.size := by omega
 go_region_held3 (fun w' => w'.cell? ⟨w5.heap.size, 0, none⟩ = some (.int .i64 (matMul g (matTurn W)).rows) ∧ w'.cell? ⟨w5.heap.size, 1, none⟩ = some (.int .i64 (matMul g (matTurn W)).cols) ∧ w'.cell? ⟨w5.heap.size, 2, none⟩ = some (.slice c5 m5 p5) ∧ w'.cell? ⟨w.heap.size + 1 + 1 + 1 + 1 + 1, 0, none⟩ = some (.int .i64 (matMul (matTurn x) g).rows) ∧ w'.cell? ⟨w.heap.size + 1 + 1 + 1 + 1 + 1, 1, none⟩ = some (.int .i64 (matMul (matTurn x) g).cols) ∧ w'.cell? ⟨w.heap.size + 1 + 1 + 1 + 1 + 1, 2, none⟩ = some (.slice c3 m3 p3) ∧ w'.cell? ⟨w.heap.size + 1 + 1 + 1 + 1 + 1, 3, none⟩ = some (.int .i64 (matSums g).rows) ∧ w'.cell? ⟨w.heap.size + 1 + 1 + 1 + 1 + 1, 4, none⟩ = some (.int .i64 (matSums g).cols) ∧ w'.cell? ⟨w.heap.size + 1 + 1 + 1 + 1 + 1, 5, none⟩ = some (.slice c4 m4 p4)) (exact cells36 (t := 25) (u := 84) (by repeat (first | (with_reducible first | exact Q5 | exact (Box.new' _ (w5.heap.size) _ _ (by simp [World.setCell])) | refine Box.alloc ?_ _ | refine Box.drewN ?_ _ | refine Box.drew ?_ | refine Box.fx ?_ _) | exact Q5)) (by repeat (first | (with_reducible first | exact E5 | refine Box.alloc ?_ _ | refine Box.drewN ?_ _ | refine Box.drew ?_ | refine Box.fx ?_ _) | exact E5))) (fail)
 all_goals (
  go_wp2
  refine bodyPost_ret (v := .tuple #[.agg #[.int .i64 (matMul g (matTurn W)).rows, .int .i64 (matMul g (matTurn W)).cols, .slice c5 m5 p5], .agg #[.int .i64 (matMul (matTurn x) g).rows, .int .i64 (matMul (matTurn x) g).cols, .slice c3 m3 p3, .int .i64 (matSums g).rows, .int .i64 (matSums g).cols, .slice c4 m4 p4]]) ?_ rfl ⟨_, _, rfl, ?_, ?_, ?_⟩
  ·simp [results, Tryz.results41, go_sem, B3c, B4c, B3z, B4z]
  ·exact MatNew.mk (b := q5) (off := r5) (fun h => by have := e5 h; omega) (by repeat (first | (with_reducible first | exact y5 | refine IntsAt.alloc ?_ _ | refine IntsAt.drewN ?_ _ | refine IntsAt.drew ?_ | (refine IntsAt.set ?_ ?_ _; rotate_left 1; (intro h0; have hq0 := e5 h0; first | (dsimp only; omega) | omega | (simp; omega) | simp))) | exact y5))
  ·exact ⟨c3, m3, p3, q3, r3, c4, m4, p4, q4, r4, rfl, fun h => by have := e3 h; omega, (by repeat (first | (with_reducible first | exact y3 | refine IntsAt.alloc ?_ _ | refine IntsAt.drewN ?_ _ | refine IntsAt.drew ?_ | (refine IntsAt.set ?_ ?_ _; rotate_left 1; (intro h0; have hq0 := e3 h0; first | (dsimp only; omega) | omega | (simp; omega) | simp))) | exact y3)), fun h => by have := e4 h; omega, (by repeat (first | (with_reducible first | exact y4 | refine IntsAt.alloc ?_ _ | refine IntsAt.drewN ?_ _ | refine IntsAt.drew ?_ | (refine IntsAt.set ?_ ?_ _; rotate_left 1; (intro h0; have hq0 := e4 h0; first | (dsimp only; omega) | omega | (simp; omega) | simp))) | exact y4))⟩
  ·exact (by repeat (first | (with_reducible first | exact Below.refl _ _ | refine Below.al ?_ _ | refine Below.drN ?_ _ | refine Below.drew ?_ | refine Below.sx ?_ _ | refine Below.go ?_ hb5 | refine Below.go ?_ hb4 | refine Below.go ?_ hb3 | refine Below.go ?_ hb2 | refine Below.go ?_ hb1) | exact Below.refl _ _)))
end Go.Proofs.YtgknjikjjklaiaaGreatDoor
end
section
set_option linter.unusedVariables false
set_option linter.unusedSimpArgs false
namespace Go.Proofs.YtgknjikjjklaiaaGreatDoor
open Go.RowKit Gal
set_option linter.unusedSectionVars false
set_option maxRecDepth 100000
set_option maxHeartbeats 8000000
structure RBackCut (w : World) (l : Lay) (x g : Mat) (s15 : Value) (wx : World) : Prop where
 holds : ∃ p a n k b o a' n' k' b' o' a2 n2 k2 b2 o2, s15 = .pointer (some ⟨p, 0, none⟩) ∧ w.heap.size + 1 + 1 + 1 + 1 + 1 < p ∧
  Box wx p [.int .i64 (l.back x g).rows, .int .i64 (l.back x g).cols, .slice a n k] 25 ∧
  Box wx (w.heap.size + 1 + 1 + 1 + 1 + 1) [.int .i64 (l.grad x g).W.rows, .int .i64 (l.grad x g).W.cols, .slice a' n' k', .int .i64 (l.grad x g).B.rows, .int .i64 (l.grad x g).B.cols, .slice a2 n2 k2] 84 ∧
  Box wx (w.heap.size + 1 + 1 + 1) [.int .i64 0, .int .i64 0, .slice none 0 0] 25 ∧
  Box wx (w.heap.size + 1 + 1 + 1 + 1) [.int .i64 0, .int .i64 0, .slice none 0 0, .int .i64 0, .int .i64 0, .slice none 0 0] 84 ∧ Below w.heap.size w wx ∧
  (0 < n → w.heap.size + 1 + 1 + 1 + 1 + 1 < b) ∧ IntsAt wx a n k b o (l.back x g).cells ∧ (0 < n' → w.heap.size + 1 + 1 + 1 + 1 + 1 < b') ∧ IntsAt wx a' n' k' b' o' (l.grad x g).W.cells ∧ (0 < n2 → w.heap.size + 1 + 1 + 1 + 1 + 1 < b2) ∧ IntsAt wx a2 n2 k2 b2 o2 (l.grad x g).B.cells
theorem refBackOf_3 (W B x g : Mat)
  (a a' a2 a3 : Option Addr) (n n' n2 n3 k k' k2 k3 b b' b2 b3 o o' o2 o3 : Nat) (w : World) (x0 : IntsAt w a n k b o W.cells) (x1 : IntsAt w a' n' k' b' o' B.cells) (x2 : IntsAt w a2 n2 k2 b2 o2 x.cells) (x3 : IntsAt w a3 n3 k3 b3 o3 g.cells)
  (hg : Backs ⟨3, W, B⟩ x g) :
  Calls Tryz.prog 41 #[.agg #[.int .i64 3, .int .i64 W.rows, .int .i64 W.cols, .slice a n k, .int .i64 B.rows, .int .i64 B.cols, .slice a' n' k'], .agg #[.int .i64 x.rows, .int .i64 x.cols, .slice a2 n2 k2], .agg #[.int .i64 g.rows, .int .i64 g.cols, .slice a3 n3 k3]] w fun e w' =>
   ∃ v d, e = .returned (.tuple #[v, d]) ∧ MatNew w.heap.size w' v (Lay.back ⟨3, W, B⟩ x g) ∧ GrdNew w.heap.size w' d (Lay.grad ⟨3, W, B⟩ x g) ∧ Below w.heap.size w w'
 := by
 have hcol : g.cols = x.cols := by rw [hg.cols]; exact if_neg (by simp)
 obtain ⟨hgl, hx288⟩ := same_len hg.goes.mat hg.mat hg.rows hcol
 have hn2 := x2.len
 have hn3 := x3.len
 have hbk : Lay.back ⟨3, W, B⟩ x g = matTimes g (ix W.cells 0) := by simp [Lay.back, matTimes]
 have hgr : Lay.grad ⟨3, W, B⟩ x g = ⟨⟨1, 1, [dotTo x.cells g.cells n2]⟩, Mat.none⟩ := by simp [Lay.grad, hn2]
 have hnw : 0 < n := by
  obtain ⟨_, _, fw, _, ft⟩ := Lay.fault_ok hg.goes.lay
  obtain ⟨R', K', e1, e2, _, _, h3, _⟩ := matFault_ok fw
  unfold Lay.fits at ft
  dsimp only at ft e1 e2 h3
  have h4 : W.rows = 1 ∧ W.cols = 1 := by omega
  obtain rfl : R' = 1 := by omega
  obtain rfl : K' = 1 := by omega
  rw [← x0.len, h3]
  omega
 have hnn : n3 = n2 := by omega
 have hn288 : n2 ≤ 288 := by omega
 have HF := Lib.hid hg.mat
 have HBK := Lib.hid hbk
 have HGR := Lib.hid hgr
 clear hbk hgr hcol hgl hx288 hn2 hn3 hg
 subst hnn
 have l0 : 0 < n → b < w.heap.size := x0.lt
 have l3 : 0 < n3 → b3 < w.heap.size := x3.lt
 obtain rfl := x0.ptr hnw
 go_enter Tryz.func41, Tryz.ntmps41
 go_wp2
 go_loopw [12, 13] (fun s i wr => ∃ t : Nat, t ≤ n3 ∧ i = .int .i64 t ∧ s = .int .i64 (dotTo x.cells g.cells t) ∧ Below w.heap.size w wr ∧
   Box wr w.heap.size [.int .i64 3, .int .i64 W.rows, .int .i64 W.cols, .slice (some ⟨b, o, none⟩) n k, .int .i64 B.rows, .int .i64 B.cols, .slice a' n' k'] 82 ∧
   Box wr (w.heap.size + 1) [.int .i64 x.rows, .int .i64 x.cols, .slice a2 n3 k2] 25 ∧ Box wr (w.heap.size + 1 + 1) [.int .i64 g.rows, .int .i64 g.cols, .slice a3 n3 k3] 25 ∧
   Box wr (w.heap.size + 1 + 1 + 1) [.int .i64 0, .int .i64 0, .slice none 0 0] 25 ∧ Box wr (w.heap.size + 1 + 1 + 1 + 1) [.int .i64 0, .int .i64 0, .slice none 0 0, .int .i64 0, .int .i64 0, .slice none 0 0] 84 ∧
   Box wr (w.heap.size + 1 + 1 + 1 + 1 + 1) [.int .i64 0, .int .i64 0, .slice none 0 0, .int .i64 0, .int .i64 0, .slice none 0 0] 84) (fun _ i _ => n3 - (intOf i).toNat)
 case atStart => exact ⟨0, Nat.zero_le _, rfl, rfl, Below.x0, Box.x0, Box.x0, Box.x0, Box.x0, Box.x0, Box.x0⟩
 case round =>
  obtain ⟨t, hk, rfl, rfl, hbr, B0, B1, B2, B3, B4, B5⟩ := hrel
  have B0c := B0.cell
  have B1c := B1.cell
  have B2c := B2.cell
  have B5c := B5.cell
  have B5f := B5.thawed
  have hz := B5.lt
  have hzk := lt_add hz
  by_cases hlt : t < n3
  ·obtain rfl := x2.ptr (by omega)
   obtain rfl := x3.ptr (by omega)
   have ca := (x2.keep hbr).cell _ hlt
   have cb := (x3.keep hbr).cell _ hlt
   go_wp2_with fail
   go_quiet ((go_at_call 38; first | exact quiet0 (rmul_any _ _) | exact quiet1 (rmul_any _ _)))
   go_wp2_with fail
   refine (radd_any _ _ _).mono ?_
   rintro e w' ⟨rfl, rfl⟩
   go_wp2
   go_roundw
   case rel => exact ⟨t + 1, by omega, by go_num, rfl, (Below.y0 hbr), B0.drewN _, B1.drewN _, B2.drewN _, B3.drewN _, B4.drewN _, B5.drewN _⟩
   case measure => simp [intOf]; omega
  ·obtain rfl : t = n3 := by omega
   go_upto_region 18 with fail
   have x0r := x0.keep hbr
   have x3r := x3.keep hbr
   have hzr : w.heap.size + 1 + 1 + 1 + 1 + 1 < wr.heap.size := B5.lt
   obtain ⟨wq, hq, Q0, Q2, Q3, Q4, Q5, QS, q0, q3, qb, qz⟩ : ∃ wq, (((wr.setCell ⟨w.heap.size + 1 + 1 + 1 + 1 + 1, 0, none⟩ (.int .i64 1)).setCell ⟨w.heap.size + 1 + 1 + 1 + 1 + 1, 1, none⟩ (.int .i64 1)).setCell ⟨w.heap.size + 1 + 1 + 1 + 1 + 1, 2, none⟩ (.slice (some ⟨wr.heap.size, 0, none⟩) 1 1)).alloc (.cells #[.int .i64 (dotTo x.cells g.cells t)] 3) = wq ∧
     Box wq w.heap.size [.int .i64 3, .int .i64 W.rows, .int .i64 W.cols, .slice (some ⟨b, o, none⟩) n k, .int .i64 B.rows, .int .i64 B.cols, .slice a' n' k'] 82 ∧
     Box wq (w.heap.size + 1 + 1) [.int .i64 g.rows, .int .i64 g.cols, .slice a3 t k3] 25 ∧
     Box wq (w.heap.size + 1 + 1 + 1) [.int .i64 0, .int .i64 0, .slice none 0 0] 25 ∧
     Box wq (w.heap.size + 1 + 1 + 1 + 1) [.int .i64 0, .int .i64 0, .slice none 0 0, .int .i64 0, .int .i64 0, .slice none 0 0] 84 ∧
     Box wq (w.heap.size + 1 + 1 + 1 + 1 + 1) [.int .i64 1, .int .i64 1, .slice (some ⟨wr.heap.size, 0, none⟩) 1 1, .int .i64 0, .int .i64 0, .slice none 0 0] 84 ∧
     IntsAt wq (some ⟨wr.heap.size, 0, none⟩) 1 1 wr.heap.size 0 [dotTo x.cells g.cells t] ∧ IntsAt wq (some ⟨b, o, none⟩) n k b o W.cells ∧ IntsAt wq a3 t k3 b3 o3 g.cells ∧ Below w.heap.size w wq ∧ wr.heap.size < wq.heap.size :=
    ⟨_, rfl, (by repeat (first | (with_reducible first | exact B0 | refine Box.alloc ?_ _ | refine Box.drewN ?_ _ | refine Box.drew ?_ | refine Box.fx ?_ _) | exact B0)), (by repeat (first | (with_reducible first | exact B2 | refine Box.alloc ?_ _ | refine Box.drewN ?_ _ | refine Box.drew ?_ | refine Box.fx ?_ _) | exact B2)), (by repeat (first | (with_reducible first | exact B3 | refine Box.alloc ?_ _ | refine Box.drewN ?_ _ | refine Box.drew ?_ | refine Box.fx ?_ _) | exact B3)), (by repeat (first | (with_reducible first | exact B4 | refine Box.alloc ?_ _ | refine Box.drewN ?_ _ | refine Box.drew ?_ | refine Box.fx ?_ _) | exact B4)), (((B5.set 0 _).set 1 _).set 2 _).alloc _, ints_box (xs := [dotTo x.cells g.cells t]) (Box.new' _ wr.heap.size _ _ (by simp [World.setCell])) (by unfold maxLen; simp), (by repeat (first | (with_reducible first | exact x0r | refine IntsAt.alloc ?_ _ | refine IntsAt.drewN ?_ _ | refine IntsAt.drew ?_ | (refine IntsAt.set ?_ ?_ _; rotate_left 1; (intro h0; have hq0 := l0 h0; first | (dsimp only; omega) | omega | (simp; omega) | simp))) | exact x0r)), (by repeat (first | (with_reducible first | exact x3r | refine IntsAt.alloc ?_ _ | refine IntsAt.drewN ?_ _ | refine IntsAt.drew ?_ | (refine IntsAt.set ?_ ?_ _; rotate_left 1; (intro h0; have hq0 := l3 h0; first | (dsimp only; omega) | omega | (simp; omega) | simp))) | exact x3r)), (Below.y0 hbr), by simp [World.setCell]⟩
   rw [hq]
   clear hq B0 B1 B2 B3 B4 B5 B0c B1c B2c B5c B5f hz hzk x0r x3r
   go_cut [15] (fun s15 wx => RBackCut w ⟨3, W, B⟩ x g s15 wx)
   case first =>
    go_region_held3 (fun w' => w'.cell? ⟨w.heap.size + 1 + 1, 0, none⟩ = some (.int .i64 g.rows) ∧ w'.cell? ⟨w.heap.size + 1 + 1, 1, none⟩ = some (.int .i64 g.cols) ∧ w'.cell? ⟨w.heap.size + 1 + 1, 2, none⟩ = some (.slice a3 t k3) ∧ w'.cell? ⟨w.heap.size, 3, none⟩ = some (.slice (some ⟨b, o, none⟩) n k) ∧ w'.cell? ⟨b, o, none⟩ = some (.int .i64 (ix W.cells 0)))
     (first | exact cells371 (t := 25) (u := 82) (v0 := .int .i64 3) (v1 := .int .i64 W.rows) (v2 := .int .i64 W.cols) (v4 := .int .i64 B.rows) (v5 := .int .i64 B.cols) (v6 := .slice a' n' k') (by repeat (first | (with_reducible first | exact Q2 | refine Box.alloc ?_ _ | refine Box.drewN ?_ _ | refine Box.drew ?_ | refine Box.fx ?_ _ | refine Box.keep ?_ hb1) | exact Q2)) (by repeat (first | (with_reducible first | exact Q0 | refine Box.alloc ?_ _ | refine Box.drewN ?_ _ | refine Box.drew ?_ | refine Box.fx ?_ _ | refine Box.keep ?_ hb1) | exact Q0)) (IntsAt.c0 (a := some ⟨b, o, none⟩) (cap := k) (by repeat (first | (with_reducible first | exact q0 | refine IntsAt.alloc ?_ _ | refine IntsAt.drewN ?_ _ | refine IntsAt.drew ?_ | (refine IntsAt.set ?_ ?_ _; rotate_left 1; (intro h0; have hq0 := l0 h0; first | (dsimp only; omega) | omega | (simp; omega) | simp)) | refine IntsAt.keep ?_ hb1) | exact q0)) hnw) | trivial)
     ((go_at_call 67; go_must (refine (refMatTimes_all g (ix W.cells 0) _ _ (MatAt.mk (show IntsAt _ a3 t k3 b3 o3 g.cells from (by repeat (first | (with_reducible first | exact q3 | refine IntsAt.alloc ?_ _ | refine IntsAt.drewN ?_ _ | refine IntsAt.drew ?_ | (refine IntsAt.set ?_ ?_ _; rotate_left 1; (intro h0; first | (dsimp only; omega) | omega | (simp; omega) | simp))) | exact q3)))) HF.out).mono ?_); go_must (rw [← HBK.out]); go_must (rintro e w1 ⟨v5, rfl, ⟨a5, n5, k5, b5, o5, rfl, hn5, x5⟩, hb1⟩); (try (refine (fun (P1 : Box w1 (wq.heap.size) [.int .i64 0, .int .i64 0, .slice none 0 0] 25) => ?_) ?_; rotate_left 1; (with_reducible refine Box.keep ?_ hb1); (focus ((repeat (first | (with_reducible refine (Box.new' _ (wq.heap.size) _ _ ?_); (simp; done)) | (with_reducible refine Box.alloc ?_ _) | (with_reducible refine Box.drew ?_) | (with_reducible refine Box.drewN ?_ _))); done)); have P1c := P1.cell; have P1f := P1.thawed; have P1z := P1.lt)); (have hs1 := hb1.size; simp at hs1; have hz1 : wr.heap.size < w1.heap.size := by omega)))
    all_goals (
     go_wp2_with fail
     go_meet
     simp at hn5
     have HG : Lay.grad ⟨3, W, B⟩ x g = ⟨⟨1, 1, [dotTo x.cells g.cells t]⟩, Mat.none⟩ := HGR.out
     refine ⟨⟨_, a5, n5, k5, b5, o5, some ⟨wr.heap.size, 0, none⟩, 1, 1, wr.heap.size, 0, none, 0, 0, 0, 0, rfl, ?_, (by repeat (first | (with_reducible first | (refine (Box.new' _ _ _ _ ?_); (simp; done)) | refine Box.alloc ?_ _ | refine Box.drewN ?_ _ | refine Box.drew ?_ | refine Box.set6z ?_ _ _ _ _ _ _ | refine Box.set3z ?_ _ _ _ | refine Box.fx ?_ _ | refine Box.keep ?_ hb1))), ?_, (by repeat (first | (with_reducible first | exact Q3 | refine Box.alloc ?_ _ | refine Box.drewN ?_ _ | refine Box.drew ?_ | refine Box.set6z ?_ _ _ _ _ _ _ | refine Box.set3z ?_ _ _ _ | refine Box.fx ?_ _ | refine Box.keep ?_ hb1) | exact Q3)), (by repeat (first | (with_reducible first | exact Q4 | refine Box.alloc ?_ _ | refine Box.drewN ?_ _ | refine Box.drew ?_ | refine Box.set6z ?_ _ _ _ _ _ _ | refine Box.set3z ?_ _ _ _ | refine Box.fx ?_ _ | refine Box.keep ?_ hb1) | exact Q4)), (Below.y1 hb1 qb), fun h => by have := hn5 h; omega, ?_, fun _ => hzr, ?_, fun h => absurd h (Nat.lt_irrefl _), ?_⟩⟩
     ·omega
     ·rw [HG]; exact (by repeat (first | (with_reducible first | exact Q5 | refine Box.alloc ?_ _ | refine Box.drewN ?_ _ | refine Box.drew ?_ | refine Box.set6z ?_ _ _ _ _ _ _ | refine Box.set3z ?_ _ _ _ | refine Box.fx ?_ _ | refine Box.keep ?_ hb1) | exact Q5))
     ·exact (by repeat (first | (with_reducible first | exact x5 | refine IntsAt.alloc ?_ _ | refine IntsAt.drewN ?_ _ | refine IntsAt.drew ?_ | (refine IntsAt.set ?_ ?_ _; rotate_left 1; (intro h0; have hq0 := hn5 h0; first | (dsimp only; omega) | omega | (simp; omega) | simp))) | exact x5))
     ·rw [HG]; exact (by repeat (first | (with_reducible first | exact QS | refine IntsAt.alloc ?_ _ | refine IntsAt.drewN ?_ _ | refine IntsAt.drew ?_ | (refine IntsAt.set ?_ ?_ _; rotate_left 1; (intro h0; first | (dsimp only; omega) | omega | (simp; omega) | simp)) | refine IntsAt.keep ?_ hb1) | exact QS))
     ·rw [HG]; exact noInts _)
   case rest =>
    obtain ⟨⟨p, c5, m5, p5, q5, r5, c6, m6, p6, q6, r6, c7, m7, p7, q7, r7, rfl, hp, Bp, Bq, C3, C4, hbw, e5, y5, e6, y6, e7, y7⟩⟩ := hcut
    have C3c := C3.cell
    have C3f := C3.thawed
    have C4c := C4.cell
    have C4f := C4.thawed
    have hz := C4.lt
    go_wp2_with fail
    go_region_held3 (fun w' => w'.cell? ⟨p, 0, none⟩ = some (.int .i64 (Lay.back ⟨3, W, B⟩ x g).rows) ∧ w'.cell? ⟨p, 1, none⟩ = some (.int .i64 (Lay.back ⟨3, W, B⟩ x g).cols) ∧ w'.cell? ⟨p, 2, none⟩ = some (.slice c5 m5 p5) ∧ w'.cell? ⟨w.heap.size + 1 + 1 + 1 + 1 + 1, 0, none⟩ = some (.int .i64 (Lay.grad ⟨3, W, B⟩ x g).W.rows) ∧ w'.cell? ⟨w.heap.size + 1 + 1 + 1 + 1 + 1, 1, none⟩ = some (.int .i64 (Lay.grad ⟨3, W, B⟩ x g).W.cols) ∧ w'.cell? ⟨w.heap.size + 1 + 1 + 1 + 1 + 1, 2, none⟩ = some (.slice c6 m6 p6) ∧ w'.cell? ⟨w.heap.size + 1 + 1 + 1 + 1 + 1, 3, none⟩ = some (.int .i64 (Lay.grad ⟨3, W, B⟩ x g).B.rows) ∧ w'.cell? ⟨w.heap.size + 1 + 1 + 1 + 1 + 1, 4, none⟩ = some (.int .i64 (Lay.grad ⟨3, W, B⟩ x g).B.cols) ∧ w'.cell? ⟨w.heap.size + 1 + 1 + 1 + 1 + 1, 5, none⟩ = some (.slice c7 m7 p7)) (exact cells36 (t := 25) (u := 84) (by repeat (first | (with_reducible first | exact Bp | refine Box.alloc ?_ _ | refine Box.drewN ?_ _ | refine Box.drew ?_ | refine Box.fx ?_ _) | exact Bp)) (by repeat (first | (with_reducible first | exact Bq | refine Box.alloc ?_ _ | refine Box.drewN ?_ _ | refine Box.drew ?_ | refine Box.fx ?_ _) | exact Bq))) (fail)
    all_goals (
     go_wp2
     refine bodyPost_ret (v := .tuple #[.agg #[.int .i64 (Lay.back ⟨3, W, B⟩ x g).rows, .int .i64 (Lay.back ⟨3, W, B⟩ x g).cols, .slice c5 m5 p5], .agg #[.int .i64 (Lay.grad ⟨3, W, B⟩ x g).W.rows, .int .i64 (Lay.grad ⟨3, W, B⟩ x g).W.cols, .slice c6 m6 p6, .int .i64 (Lay.grad ⟨3, W, B⟩ x g).B.rows, .int .i64 (Lay.grad ⟨3, W, B⟩ x g).B.cols, .slice c7 m7 p7]]) ?_ rfl ⟨_, _, rfl, ?_, ?_, ?_⟩
     ·simp [results, Tryz.results41, go_sem, C3c, C4c, hz]
     ·exact MatNew.mk (b := q5) (off := r5) (fun h => by have := e5 h; omega) (by repeat (first | (with_reducible first | exact y5 | refine IntsAt.alloc ?_ _ | refine IntsAt.drewN ?_ _ | refine IntsAt.drew ?_ | (refine IntsAt.set ?_ ?_ _; rotate_left 1; (intro h0; have hq0 := e5 h0; first | (dsimp only; omega) | omega | (simp; omega) | simp))) | exact y5))
     ·exact ⟨c6, m6, p6, q6, r6, c7, m7, p7, q7, r7, rfl, fun h => by have := e6 h; omega, (by repeat (first | (with_reducible first | exact y6 | refine IntsAt.alloc ?_ _ | refine IntsAt.drewN ?_ _ | refine IntsAt.drew ?_ | (refine IntsAt.set ?_ ?_ _; rotate_left 1; (intro h0; have hq0 := e6 h0; first | (dsimp only; omega) | omega | (simp; omega) | simp))) | exact y6)), fun h => by have := e7 h; omega, (by repeat (first | (with_reducible first | exact y7 | refine IntsAt.alloc ?_ _ | refine IntsAt.drewN ?_ _ | refine IntsAt.drew ?_ | (refine IntsAt.set ?_ ?_ _; rotate_left 1; (intro h0; have hq0 := e7 h0; first | (dsimp only; omega) | omega | (simp; omega) | simp))) | exact y7))⟩
     ·exact (Below.y0 hbw))
end Go.Proofs.YtgknjikjjklaiaaGreatDoor
end
