/- Texts joined: SameL, StaTop. -/
import Derived.Test.YtchngeagnlngaaaJ18
import Derived.BigQuiet
import Derived.Test.YtchngeagnlngaaaJ10
section
set_option linter.unusedVariables false
set_option linter.unusedSimpArgs false
namespace Go.Proofs.Ytchngeagnlngaaa
open Go.RowKit Gal
set_option maxRecDepth 100000 in
set_option maxHeartbeats 4000000 in
theorem layers_same (ls : List Lay) (F G : Nat → Prop) (a0 a1 : Option Addr) (n0 n1 k0 k1 b0 b1 o0 o1 : Nat) (w : World) (h0 : RowAt Form.lay w F a0 n0 k0 b0 o0 ls) (h1 : RowAt Form.lay w G a1 n1 k1 b1 o1 ls) :
  Calls Try.prog 39 #[.slice a0 n0 k0, .slice a1 n1 k1] w fun e w' => e = .returned (.bool true) ∧ Below w.heap.size w w' := by
 have m0 := h0.max
 unfold maxLen at m0
 have l0 := h0.len
 obtain rfl : n0 = n1 := by rw [← l0]; exact h1.len
 have hne : ((n0 : Int) != (n0 : Int)) = false := by simp
 go_enter Try.func39, Try.ntmps39
 go_wp2
 go_loopw [5] (fun i wr => ∃ k : Nat, k ≤ n0 ∧ i = .int .i64 k ∧ Below w.heap.size w wr) (fun i _ => n0 - (intOf i).toNat)
 case atStart => exact ⟨0, Nat.zero_le _, rfl, Below.refl _ _⟩
 case round =>
  obtain ⟨k, hk, rfl, hbr⟩ := hrel
  by_cases hlt : k < n0
  ·have hltI : (k : Int) < (n0 : Int) := by omega
   obtain rfl := h0.ptr (by omega)
   obtain rfl := h1.ptr (by omega)
   obtain ⟨d, hd⟩ : ∃ d, d = lx ls k := ⟨_, rfl⟩
   obtain ⟨p1, p2, p3, p4, p5, p6, p7, p8, p9, p10, cK, c0, c1, c2, c3, c4, c5, y0, y1⟩ := lay_cells (h0.keep hbr) hlt
   obtain ⟨q1, q2, q3, q4, q5, q6, q7, q8, q9, q10, eK, e0, e1, e2, e3, e4, e5, z0, z1⟩ := lay_cells (h1.keep hbr) hlt
   rw [← hd] at cK c0 c1 c3 c4 y0 y1 eK e0 e1 e3 e4 z0 z1
   clear hd
   go_wp2_with fail
   go_region_held3 (fun w' => w'.cell? ⟨b0, o0 + k * 7 + 1, none⟩ = some (.int .i64 d.W.rows) ∧ w'.cell? ⟨b0, o0 + k * 7 + 2, none⟩ = some (.int .i64 d.W.cols) ∧ w'.cell? ⟨b0, o0 + k * 7 + 3, none⟩ = some (.slice p1 p2 p3) ∧ w'.cell? ⟨b1, o1 + k * 7 + 1, none⟩ = some (.int .i64 d.W.rows) ∧ w'.cell? ⟨b1, o1 + k * 7 + 2, none⟩ = some (.int .i64 d.W.cols) ∧ w'.cell? ⟨b1, o1 + k * 7 + 3, none⟩ = some (.slice q1 q2 q3)) (first | exact ⟨cell_keep hb1 c0, cell_keep hb1 c1, cell_keep hb1 c2, cell_keep hb1 e0, cell_keep hb1 e1, cell_keep hb1 e2⟩ | exact ⟨c0, c1, c2, e0, e1, e2⟩) ((go_at_call 74; go_must (refine (matrices_sameM d.W _ _ _ (MatAt.mk (y0.drewN _)) (MatAt.mk (z0.drewN _))).mono ?_); go_must (rintro e w1 ⟨rfl, hb1⟩)))
   have fc3 := cell_keep hb1 c3
   have fc4 := cell_keep hb1 c4
   have fc5 := cell_keep hb1 c5
   have fcK := cell_keep hb1 cK
   have fe3 := cell_keep hb1 e3
   have fe4 := cell_keep hb1 e4
   have fe5 := cell_keep hb1 e5
   have feK := cell_keep hb1 eK
   clear c0 c1 c2 c3 c4 c5 cK e0 e1 e2 e3 e4 e5 eK
   go_wp2_with fail
   go_region_held3 (fun w' => w'.cell? ⟨b0, o0 + k * 7 + 4, none⟩ = some (.int .i64 d.B.rows) ∧ w'.cell? ⟨b0, o0 + k * 7 + 5, none⟩ = some (.int .i64 d.B.cols) ∧ w'.cell? ⟨b0, o0 + k * 7 + 6, none⟩ = some (.slice p6 p7 p8) ∧ w'.cell? ⟨b1, o1 + k * 7 + 4, none⟩ = some (.int .i64 d.B.rows) ∧ w'.cell? ⟨b1, o1 + k * 7 + 5, none⟩ = some (.int .i64 d.B.cols) ∧ w'.cell? ⟨b1, o1 + k * 7 + 6, none⟩ = some (.slice q6 q7 q8)) (first | exact ⟨(cell_keep hb2 fc3) ,(cell_keep hb2 fc4) ,(cell_keep hb2 fc5) ,(cell_keep hb2 fe3) ,(cell_keep hb2 fe4) ,(cell_keep hb2 fe5)⟩ | exact ⟨fc3 ,fc4 ,fc5 ,fe3 ,fe4 ,fe5⟩) ((go_at_call 74; go_must (refine (matrices_sameM d.B _ _ _ (MatAt.mk (show IntsAt _ p6 p7 p8 p9 p10 d.B.cells from (by first | exact y1.k1 hb1 | exact y1.k))) (MatAt.mk (show IntsAt _ q6 q7 q8 q9 q10 d.B.cells from (by first | exact z1.k1 hb1 | exact z1.k)))).mono ?_); go_must (rintro e w2 ⟨rfl, hb2⟩)))
   have hbq : Below w.heap.size w w2 := (by repeat (first | (with_reducible first | exact Below.refl _ _ | exact hbr | refine Below.al ?_ _ | refine Below.drN ?_ _ | refine Below.drew ?_ | refine Below.sx ?_ _ | refine Below.go ?_ hb2 | refine Below.go ?_ hb1) | exact Below.refl _ _ | exact hbr))
   have gcK := cell_keep hb2 fcK
   have geK := cell_keep hb2 feK
   have hkk : (d.kind != d.kind) = false := by simp
   clear fc3 fc4 fc5 fcK fe3 fe4 fe5 feK y0 y1 z0 z1 hb1 hb2
   go_wp2_with fail
   go_quiet (fail)
   go_wp2
   go_roundw
   case rel => exact ⟨k + 1, by omega, by go_num, (Below.y0 hbq)⟩
   case measure => simp [intOf]; omega
  ·go_wp2
   go_ret
   exact ⟨rfl, hbr⟩
end Go.Proofs.Ytchngeagnlngaaa
end
section
set_option linter.unusedVariables false
set_option linter.unusedSimpArgs false
set_option linter.unusedSectionVars false
set_option maxRecDepth 100000
namespace Go.Proofs.Ytchngeagnlngaaa
open Go.RowKit Gal
set_option maxHeartbeats 4000000
theorem topState_any (z : Int) (a0 a1 : Option Addr) (n n1 k0 k1 : Nat) (w : World) :
  Calls Try.prog 7 #[.agg #[.slice a0 n k0, .slice a1 n1 k1, .int .i64 z]] w fun e w' => e = .returned (.agg #[.slice a0 n k0, .slice a1 n1 k1, .int .i64 z]) ∧ Below w.heap.size w w' := by
 have hB : Box ((w.alloc (.cells #[.slice a0 n k0, .slice a1 n1 k1, .int .i64 z] 25)).alloc (.cells #[.slice a0 n k0, .slice a1 n1 k1, .int .i64 z] 34)) (w.heap.size + 1) [.slice a0 n k0, .slice a1 n1 k1, .int .i64 z] 34 := Box.new' _ _ [.slice a0 n k0, .slice a1 n1 k1, .int .i64 z] _ (by simp)
 have z0 := hB.cell 0
 have z1 := hB.cell 1
 have z2 := hB.cell 2
 go_enter Try.func7, Try.ntmps7
 go_wp2
 refine bodyPost_ret (v := .agg #[.slice a0 n k0, .slice a1 n1 k1, .int .i64 z]) (by simp [results, Try.results7, go_sem, z0, z1, z2]) rfl ⟨rfl, Below.x0⟩
theorem topStates_same (s : Sta) (v v' : Value) (w : World) (h : StaV w v s) (h' : StaV w v' s) :
  Calls Try.prog 12 #[v, v'] w fun e w' => e = .returned (.bool true) ∧ Below w.heap.size w w' := by
 obtain ⟨a0, n, k0, b0, o0, a1, n1, k1, b1, o1, rfl, h0, h1⟩ := h
 obtain ⟨a2, n2, k2, b2, o2, a3, n3, k3, b3, o3, rfl, h2, h3⟩ := h'
 obtain ⟨z, hz⟩ : ∃ z, s.steps = z := ⟨_, rfl⟩
 rw [hz]
 clear hz
 go_enter Try.func12, Try.ntmps12
 go_wp2_with fail
 refine (layers_same s.N anyB anyB _ _ _ _ _ _ _ _ _ _ _ (h0.alloc _ |>.alloc _) (h2.alloc _ |>.alloc _)).mono ?_
 rintro e w1 ⟨rfl, hb1⟩
 have B1 := ((show Box _ w.heap.size [.slice a0 n k0, .slice a1 n1 k1, .int .i64 z] 34 from Box.x0)).keep hb1
 have B1c := B1.cell
 have B1f := B1.thawed
 have B1z := B1.lt
 have B1k := lt_add B1z
 have B2 := ((show Box _ (w.heap.size + 1) [.slice a2 n2 k2, .slice a3 n3 k3, .int .i64 z] 34 from Box.x0)).keep hb1
 have B2c := B2.cell
 have B2f := B2.thawed
 have B2z := B2.lt
 have B2k := lt_add B2z
 have hkw1 : Below w.heap.size w w1 := (Below.x1 hb1)
 replace h1 := h1.keep hkw1
 replace h3 := h3.keep hkw1
 have hsw1 := hkw1.size
 go_wp2_with fail
 refine (grads_same s.V anyB anyB _ _ _ _ _ _ _ _ _ _ _ h1 h3).mono ?_
 rintro e w2 ⟨rfl, hb2⟩
 have hkw2 : Below w1.heap.size w1 w2 := (Below.x1 hb2)
 replace B1 := B1.keep hkw2
 replace B1c := B1.cell
 replace B1f := B1.thawed
 replace B1z := B1.lt
 replace B1k := lt_add B1z
 replace B2 := B2.keep hkw2
 replace B2c := B2.cell
 replace B2f := B2.thawed
 replace B2z := B2.lt
 replace B2k := lt_add B2z
 have hsw2 := hkw2.size
 have hbe : Below w.heap.size w w2 := (Below.x2 hb2 hb1)
 have hzz : (z == z) = true := by simp
 clear h0 h1 h2 h3 hb1 hb2
 go_wp2
 go_ret
 exact ⟨rfl, hbe⟩
end Go.Proofs.Ytchngeagnlngaaa
end
