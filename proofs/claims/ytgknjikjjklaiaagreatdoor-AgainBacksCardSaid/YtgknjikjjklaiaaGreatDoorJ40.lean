/- Texts joined: RLay4. -/
import Derived.Test.YtgknjikjjklaiaaGreatDoorJ39
import Derived.Test.YtgknjikjjklaiaaGreatDoorJ24
section
set_option linter.unusedVariables false
set_option linter.unusedSimpArgs false
namespace Go.Proofs.YtgknjikjjklaiaaGreatDoor
open Go.RowKit Gal
set_option linter.unusedSectionVars false
set_option maxRecDepth 100000
set_option maxHeartbeats 4000000
theorem refBackOf_1 (W B x g : Mat)
  (a a' a2 a3 : Option Addr) (n n' n2 n3 k k' k2 k3 b b' b2 b3 o o' o2 o3 : Nat) (w : World) (x0 : IntsAt w a n k b o W.cells) (x1 : IntsAt w a' n' k' b' o' B.cells) (x2 : IntsAt w a2 n2 k2 b2 o2 x.cells) (x3 : IntsAt w a3 n3 k3 b3 o3 g.cells)
  (hg : Backs ⟨1, W, B⟩ x g) :
  Calls Tryz.prog 41 #[.agg #[.int .i64 1, .int .i64 W.rows, .int .i64 W.cols, .slice a n k, .int .i64 B.rows, .int .i64 B.cols, .slice a' n' k'], .agg #[.int .i64 x.rows, .int .i64 x.cols, .slice a2 n2 k2], .agg #[.int .i64 g.rows, .int .i64 g.cols, .slice a3 n3 k3]] w fun e w' =>
   ∃ v d, e = .returned (.tuple #[v, d]) ∧ MatNew w.heap.size w' v (Lay.back ⟨1, W, B⟩ x g) ∧ GrdNew w.heap.size w' d (Lay.grad ⟨1, W, B⟩ x g) ∧ Below w.heap.size w w'
 := by
 have hbk : Lay.back ⟨1, W, B⟩ x g = matMul g (matTurn W) := by simp [Lay.back]
 have hgr : Lay.grad ⟨1, W, B⟩ x g = ⟨matMul (matTurn x) g, matSums g⟩ := by simp [Lay.grad]
 obtain ⟨_, _, fw, fb, ft⟩ := Lay.fault_ok hg.goes.lay
 have hW12 : W.rows ≤ 12 := by unfold Lay.fits at ft; dsimp only at ft; omega
 have hx12 : x.rows ≤ 12 := hg.small rfl
 have hc : g.cols = W.cols := by rw [hg.cols]; exact if_pos rfl
 have HTW := Lib.hid fw
 have HTX := Lib.hid hg.goes.mat
 have HM1 : Hid (mulFault g (matTurn W) = 0) := Lib.hid (mulFault_zero hg.mat (turn_fault' fw hW12) hc)
 have HM2 : Hid (mulFault (matTurn x) g = 0) := Lib.hid (mulFault_zero (turn_fault' hg.goes.mat hx12) hg.mat hg.rows.symm)
 have HF := Lib.hid hg.mat
 rw [hbk, hgr]
 clear hbk hgr fw fb ft hW12 hx12 hc hg
 have l0 : 0 < n → b < w.heap.size := x0.lt
 have l2 : 0 < n2 → b2 < w.heap.size := x2.lt
 have l3 : 0 < n3 → b3 < w.heap.size := x3.lt
 go_enter Tryz.func41, Tryz.ntmps41
 go_wp2_with fail
 refine (refMatTurn_all W _ _ (MatAt.mk (x0.alloc _ |>.alloc _ |>.alloc _ |>.alloc _ |>.alloc _ |>.alloc _)) HTW.out).mono ?_
 rintro e w1 ⟨v1, rfl, ⟨c1, m1, p1, q1, r1, rfl, hn1, y1⟩, hb1⟩
 have B0 := ((show Box _ w.heap.size [.int .i64 1, .int .i64 W.rows, .int .i64 W.cols, .slice a n k, .int .i64 B.rows, .int .i64 B.cols, .slice a' n' k'] 82 from Box.x0)).keep hb1
 have B0c := B0.cell
 have B0f := B0.thawed
 have B0z := B0.lt
 have B0k := lt_add B0z
 have B1 := ((show Box _ (w.heap.size + 1) [.int .i64 x.rows, .int .i64 x.cols, .slice a2 n2 k2] 25 from Box.x0)).keep hb1
 have B1c := B1.cell
 have B1f := B1.thawed
 have B1z := B1.lt
 have B1k := lt_add B1z
 have B2 := ((show Box _ (w.heap.size + 1 + 1) [.int .i64 g.rows, .int .i64 g.cols, .slice a3 n3 k3] 25 from Box.x0)).keep hb1
 have B2c := B2.cell
 have B2f := B2.thawed
 have B2z := B2.lt
 have B2k := lt_add B2z
 have B3 := ((show Box _ (w.heap.size + 1 + 1 + 1) [.int .i64 0, .int .i64 0, .slice none 0 0] 25 from Box.x0)).keep hb1
 have B3c := B3.cell
 have B3f := B3.thawed
 have B3z := B3.lt
 have B3k := lt_add B3z
 have B4 := ((show Box _ (w.heap.size + 1 + 1 + 1 + 1) [.int .i64 0, .int .i64 0, .slice none 0 0, .int .i64 0, .int .i64 0, .slice none 0 0] 84 from Box.x0)).keep hb1
 have B4c := B4.cell
 have B4f := B4.thawed
 have B4z := B4.lt
 have B4k := lt_add B4z
 have B5 := ((show Box _ (w.heap.size + 1 + 1 + 1 + 1 + 1) [.int .i64 0, .int .i64 0, .slice none 0 0, .int .i64 0, .int .i64 0, .slice none 0 0] 84 from Box.x0)).keep hb1
 have B5c := B5.cell
 have B5f := B5.thawed
 have B5z := B5.lt
 have B5k := lt_add B5z
 have hkw1 : Below w.heap.size w w1 := (Below.x1 hb1)
 replace x2 := x2.keep hkw1
 replace x3 := x3.keep hkw1
 have hsw1 := hkw1.size
 have hz1 : w.heap.size + 1 + 1 + 1 + 1 + 1 < w1.heap.size := B5z
 go_wp2_with fail
 refine (refMatTurn_all x _ _ (MatAt.mk (x2.alloc _)) HTX.out).mono ?_
 rintro e w2 ⟨v2, rfl, ⟨c2, m2, p2, q2, r2, rfl, hn2, y2⟩, hb2⟩
 have Q1 := (Box.new w1 [.int .i64 (matTurn W).rows, .int .i64 (matTurn W).cols, .slice c1 m1 p1] 25).keep hb2
 have Q1c := Q1.cell
 have Q1f := Q1.thawed
 have Q1z := Q1.lt
 have Q1k := lt_add Q1z
 have hkw2 : Below w1.heap.size w1 w2 := (Below.x1 hb2)
 replace B2 := B2.keep hkw2
 replace B2c := B2.cell
 replace B2f := B2.thawed
 replace B2z := B2.lt
 replace B2k := lt_add B2z
 replace B3 := B3.keep hkw2
 replace B3c := B3.cell
 replace B3f := B3.thawed
 replace B3z := B3.lt
 replace B3k := lt_add B3z
 replace B4 := B4.keep hkw2
 replace B4c := B4.cell
 replace B4f := B4.thawed
 replace B4z := B4.lt
 replace B4k := lt_add B4z
 replace B5 := B5.keep hkw2
 replace B5c := B5.cell
 replace B5f := B5.thawed
 replace B5z := B5.lt
 replace B5k := lt_add B5z
 replace x3 := x3.keep hkw2
 replace y1 := y1.keep hkw2
 have hsw2 := hkw2.size
 go_wp2_with fail
 refine (refMatMul_all (matTurn x) g _ _ _ (MatAt.mk (y2.alloc _)) (MatAt.mk (x3.alloc _)) HM2.out).mono ?_
 rintro e w3 ⟨v3, rfl, ⟨c3, m3, p3, q3, r3, rfl, hn3, y3⟩, hb3⟩
 have hkw3 : Below w2.heap.size w2 w3 := (Below.x1 hb3)
 replace B2 := B2.keep hkw3
 replace B2c := B2.cell
 replace B2f := B2.thawed
 replace B2z := B2.lt
 replace B2k := lt_add B2z
 replace B3 := B3.keep hkw3
 replace B3c := B3.cell
 replace B3f := B3.thawed
 replace B3z := B3.lt
 replace B3k := lt_add B3z
 replace B4 := B4.keep hkw3
 replace B4c := B4.cell
 replace B4f := B4.thawed
 replace B4z := B4.lt
 replace B4k := lt_add B4z
 replace B5 := B5.keep hkw3
 replace B5c := B5.cell
 replace B5f := B5.thawed
 replace B5z := B5.lt
 replace B5k := lt_add B5z
 replace Q1 := Q1.keep hkw3
 replace Q1c := Q1.cell
 replace Q1f := Q1.thawed
 replace Q1z := Q1.lt
 replace Q1k := lt_add Q1z
 replace x3 := x3.keep hkw3
 replace y1 := y1.keep hkw3
 have hsw3 := hkw3.size
 have e1 : 0 < m1 → w.heap.size + 1 + 1 + 1 + 1 + 1 < q1 := fun h => by have := hn1 h; simp at this; omega
 have e3 : 0 < m3 → w.heap.size + 1 + 1 + 1 + 1 + 1 < q3 := fun h => by have := hn3 h; simp at this; omega
 go_wp2_with fail
 refine (refMatSums_all g _ _ (MatAt.mk (show IntsAt _ a3 n3 k3 b3 o3 g.cells from (by repeat (first | (with_reducible first | exact x3 | refine IntsAt.alloc ?_ _ | refine IntsAt.drewN ?_ _ | refine IntsAt.drew ?_ | (refine IntsAt.set ?_ ?_ _; rotate_left 1; (intro h0; have hq0 := l3 h0; first | (dsimp only; omega) | omega | (simp; omega) | simp))) | exact x3)))) HF.out).mono ?_
 rintro e w4 ⟨v4, rfl, ⟨c4, m4, p4, q4, r4, rfl, hn4, y4⟩, hb4⟩
 have hfr : Far (· = w.heap.size + 1 + 1 + 1 + 1 + 1) w3 w4 := ((((Far.refl (· = w.heap.size + 1 + 1 + 1 + 1 + 1) w3).st (a := ⟨w.heap.size + 1 + 1 + 1 + 1 + 1, 0, none⟩) (fun _ => rfl) _).st (a := ⟨w.heap.size + 1 + 1 + 1 + 1 + 1, 1, none⟩) (fun _ => rfl) _).st (a := ⟨w.heap.size + 1 + 1 + 1 + 1 + 1, 2, none⟩) (fun _ => rfl) _).go hb4
 have D5 : Box w4 (w.heap.size + 1 + 1 + 1 + 1 + 1) [.int .i64 (matMul (matTurn x) g).rows, .int .i64 (matMul (matTurn x) g).cols, .slice c3 m3 p3, .int .i64 0, .int .i64 0, .slice none 0 0] 84 := (((B5.set 0 _).set 1 _).set 2 _).keep hb4
 have D5c := D5.cell
 have D5f := D5.thawed
 have D5z := D5.lt
 clear B5 B5c B5f B5z B5k
 replace B2 := B2.farS hfr (by omega)
 have B2c := B2.cell
 have B2f := B2.thawed
 have B2z := B2.lt
 have B2k := lt_add B2z
 replace B3 := B3.farS hfr (by omega)
 have B3c := B3.cell
 have B3f := B3.thawed
 have B3z := B3.lt
 have B3k := lt_add B3z
 replace B4 := B4.farS hfr (by omega)
 have B4c := B4.cell
 have B4f := B4.thawed
 have B4z := B4.lt
 have B4k := lt_add B4z
 replace Q1 := Q1.farS hfr (by omega)
 have Q1c := Q1.cell
 have Q1f := Q1.thawed
 have Q1z := Q1.lt
 have Q1k := lt_add Q1z
 replace x3 := x3.farS hfr (by intro h e; have := l3 h; omega)
 replace y1 := y1.farS hfr (by intro h e; have := e1 h; omega)
 replace y3 := y3.farS hfr (by intro h e; have := e3 h; omega)
 have hs4 := hfr.size
 clear hfr
 go_wp2_with fail
 refine (refMatMul_all g (matTurn W) _ _ _ (MatAt.mk (show IntsAt _ a3 n3 k3 b3 o3 g.cells from (by repeat (first | (with_reducible first | exact x3 | refine IntsAt.alloc ?_ _ | refine IntsAt.drewN ?_ _ | refine IntsAt.drew ?_ | (refine IntsAt.set ?_ ?_ _; rotate_left 1; (intro h0; have hq0 := l3 h0; first | (dsimp only; omega) | omega | (simp; omega) | simp))) | exact x3)))) (MatAt.mk (show IntsAt _ c1 m1 p1 q1 r1 (matTurn W).cells from (by repeat (first | (with_reducible first | exact y1 | refine IntsAt.alloc ?_ _ | refine IntsAt.drewN ?_ _ | refine IntsAt.drew ?_ | (refine IntsAt.set ?_ ?_ _; rotate_left 1; (intro h0; have hq0 := e1 h0; first | (dsimp only; omega) | omega | (simp; omega) | simp))) | exact y1)))) HM1.out).mono ?_
 rintro e w5 ⟨v5, rfl, ⟨c5, m5, p5, q5, r5, rfl, hn5, y5⟩, hb5⟩
 have hfr : Far (· = w.heap.size + 1 + 1 + 1 + 1 + 1) w4 w5 := ((((Far.refl (· = w.heap.size + 1 + 1 + 1 + 1 + 1) w4).st (a := ⟨w.heap.size + 1 + 1 + 1 + 1 + 1, 3, none⟩) (fun _ => rfl) _).st (a := ⟨w.heap.size + 1 + 1 + 1 + 1 + 1, 4, none⟩) (fun _ => rfl) _).st (a := ⟨w.heap.size + 1 + 1 + 1 + 1 + 1, 5, none⟩) (fun _ => rfl) _).go hb5
 have e4 : 0 < m4 → w.heap.size + 1 + 1 + 1 + 1 + 1 < q4 := fun h => by have := hn4 h; simp [World.setCell] at this; omega
 have e5 : 0 < m5 → w.heap.size + 1 + 1 + 1 + 1 + 1 < q5 := fun h => by have := hn5 h; simp [World.setCell] at this; omega
 have E5 : Box w5 (w.heap.size + 1 + 1 + 1 + 1 + 1) [.int .i64 (matMul (matTurn x) g).rows, .int .i64 (matMul (matTurn x) g).cols, .slice c3 m3 p3, .int .i64 (matSums g).rows, .int .i64 (matSums g).cols, .slice c4 m4 p4] 84 := (((D5.set 3 _).set 4 _).set 5 _).keep hb5
 clear D5 D5c D5f D5z
 replace B3 := B3.farS hfr (by omega)
 have B3c := B3.cell
 have B3f := B3.thawed
 have B3z := B3.lt
 have B3k := lt_add B3z
 replace B4 := B4.farS hfr (by omega)
 have B4c := B4.cell
 have B4f := B4.thawed
 have B4z := B4.lt
 have B4k := lt_add B4z
 replace y3 := y3.farS hfr (by intro h e; have := e3 h; omega)
 replace y4 := y4.farS hfr (by intro h e; have := e4 h; omega)
 have hs5 := hfr.size
 clear hfr
 go_wp2_with fail
 have Q5 : Box (w5.alloc (.cells #[.int .i64 (matMul g (matTurn W)).rows, .int .i64 (matMul g (matTurn W)).cols, .slice c5 m5 p5] 25)) w5.heap.size [.int .i64 (matMul g (matTurn W)).rows, .int .i64 (matMul g (matTurn W)).cols, .slice c5 m5 p5] 25 := Box.new _ _ _
 have hz5 : w.heap.size + 1 + 1 + 1 + 1 + 1 < w5.heap.size := by omega
 go_region_held3 (fun w' => w'.cell? ⟨w5.heap.size, 0, none⟩ = some (.int .i64 (matMul g (matTurn W)).rows) ∧ w'.cell? ⟨w5.heap.size, 1, none⟩ = some (.int .i64 (matMul g (matTurn W)).cols) ∧ w'.cell? ⟨w5.heap.size, 2, none⟩ = some (.slice c5 m5 p5) ∧ w'.cell? ⟨w.heap.size + 1 + 1 + 1 + 1 + 1, 0, none⟩ = some (.int .i64 (matMul (matTurn x) g).rows) ∧ w'.cell? ⟨w.heap.size + 1 + 1 + 1 + 1 + 1, 1, none⟩ = some (.int .i64 (matMul (matTurn x) g).cols) ∧ w'.cell? ⟨w.heap.size + 1 + 1 + 1 + 1 + 1, 2, none⟩ = some (.slice c3 m3 p3) ∧ w'.cell? ⟨w.heap.size + 1 + 1 + 1 + 1 + 1, 3, none⟩ = some (.int .i64 (matSums g).rows) ∧ w'.cell? ⟨w.heap.size + 1 + 1 + 1 + 1 + 1, 4, none⟩ = some (.int .i64 (matSums g).cols) ∧ w'.cell? ⟨w.heap.size + 1 + 1 + 1 + 1 + 1, 5, none⟩ = some (.slice c4 m4 p4)) (exact cells36 (t := 25) (u := 84) (by repeat (first | (with_reducible first | exact Q5 | exact (Box.new' _ (w5.heap.size) _ _ (by simp [World.setCell])) | refine Box.alloc ?_ _ | refine Box.drewN ?_ _ | refine Box.drew ?_ | refine Box.fx ?_ _) | exact Q5)) E5.k) (fail)
 all_goals (
  go_wp2
  refine bodyPost_ret (v := .tuple #[.agg #[.int .i64 (matMul g (matTurn W)).rows, .int .i64 (matMul g (matTurn W)).cols, .slice c5 m5 p5], .agg #[.int .i64 (matMul (matTurn x) g).rows, .int .i64 (matMul (matTurn x) g).cols, .slice c3 m3 p3, .int .i64 (matSums g).rows, .int .i64 (matSums g).cols, .slice c4 m4 p4]]) ?_ rfl ⟨_, _, rfl, ?_, ?_, ?_⟩
  ·simp [results, Tryz.results41, go_sem, B3c, B4c, B3z, B4z]
  ·exact MatNew.mk (b := q5) (off := r5) (fun h => by have := e5 h; omega) (by repeat (first | (with_reducible first | exact y5 | refine IntsAt.alloc ?_ _ | refine IntsAt.drewN ?_ _ | refine IntsAt.drew ?_ | (refine IntsAt.set ?_ ?_ _; rotate_left 1; (intro h0; have hq0 := e5 h0; first | (dsimp only; omega) | omega | (simp; omega) | simp))) | exact y5))
  ·exact ⟨c3, m3, p3, q3, r3, c4, m4, p4, q4, r4, rfl, fun h => by have := e3 h; omega, (by repeat (first | (with_reducible first | exact y3 | refine IntsAt.alloc ?_ _ | refine IntsAt.drewN ?_ _ | refine IntsAt.drew ?_ | (refine IntsAt.set ?_ ?_ _; rotate_left 1; (intro h0; have hq0 := e3 h0; first | (dsimp only; omega) | omega | (simp; omega) | simp))) | exact y3)), fun h => by have := e4 h; omega, (by repeat (first | (with_reducible first | exact y4 | refine IntsAt.alloc ?_ _ | refine IntsAt.drewN ?_ _ | refine IntsAt.drew ?_ | (refine IntsAt.set ?_ ?_ _; rotate_left 1; (intro h0; have hq0 := e4 h0; first | (dsimp only; omega) | omega | (simp; omega) | simp))) | exact y4))⟩
  ·exact (by repeat (first | (with_reducible first | exact Below.refl _ _ | refine Below.al ?_ _ | refine Below.drN ?_ _ | refine Below.drew ?_ | refine Below.sx ?_ _ | refine Below.go ?_ hb5 | refine Below.go ?_ hb4 | refine Below.go ?_ hb3 | refine Below.go ?_ hb2 | refine Below.go ?_ hb1) | exact Below.refl _ _)))
end Go.Proofs.YtgknjikjjklaiaaGreatDoor
end
