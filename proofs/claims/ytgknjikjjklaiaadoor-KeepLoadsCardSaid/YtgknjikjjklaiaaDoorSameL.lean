/- Contracts of package galleysame: Layers, of two nets that are the same. -/
import Derived.Test.YtgknjikjjklaiaaDoorGrads
import Derived.BigQuiet
set_option linter.unusedVariables false
set_option linter.unusedSimpArgs false
namespace Go.Proofs.YtgknjikjjklaiaaDoor
open Go.RowKit Gal
set_option maxRecDepth 100000 in
set_option maxHeartbeats 4000000 in
theorem layers_same (ls : List Lay) (F G : Nat → Prop) (a0 a1 : Option Addr) (n0 n1 k0 k1 b0 b1 o0 o1 : Nat) (w : World) (h0 : RowAt Form.lay w F a0 n0 k0 b0 o0 ls) (h1 : RowAt Form.lay w G a1 n1 k1 b1 o1 ls) :
    Calls Tryd.prog 56 #[.slice a0 n0 k0, .slice a1 n1 k1] w fun e w' => e = .returned (.bool true) ∧ Below w.heap.size w w' := by
  have m0 := h0.max
  unfold maxLen at m0
  have l0 := h0.len
  obtain rfl : n0 = n1 := by rw [← l0]; exact h1.len
  have hne : ((n0 : Int) != (n0 : Int)) = false := by simp
  go_enter Tryd.func56, Tryd.ntmps56
  go_wp2
  go_loopw [5] (fun i wr => ∃ k : Nat, k ≤ n0 ∧ i = .int .i64 k ∧ Below w.heap.size w wr) (fun i _ => n0 - (intOf i).toNat)
  case atStart => exact ⟨0, Nat.zero_le _, rfl, Below.refl _ _⟩
  case round =>
    obtain ⟨k, hk, rfl, hbr⟩ := hrel
    by_cases hlt : k < n0
    · have hltI : (k : Int) < (n0 : Int) := by omega
      obtain rfl := h0.ptr (by omega)
      obtain rfl := h1.ptr (by omega)
      obtain ⟨d, hd⟩ : ∃ d, d = lx ls k := ⟨_, rfl⟩
      obtain ⟨p1, p2, p3, p4, p5, p6, p7, p8, p9, p10, cK, c0, c1, c2, c3, c4, c5, y0, y1⟩ := lay_cells (h0.keep hbr) hlt
      obtain ⟨q1, q2, q3, q4, q5, q6, q7, q8, q9, q10, eK, e0, e1, e2, e3, e4, e5, z0, z1⟩ := lay_cells (h1.keep hbr) hlt
      rw [← hd] at cK c0 c1 c3 c4 y0 y1 eK e0 e1 e3 e4 z0 z1
      clear hd
      go_wp2_with fail
      go_region_held3 (fun w' => w'.cell? ⟨b0, o0 + k * 7 + 1, none⟩ = some (.int .i64 d.W.rows) ∧ w'.cell? ⟨b0, o0 + k * 7 + 2, none⟩ = some (.int .i64 d.W.cols) ∧ w'.cell? ⟨b0, o0 + k * 7 + 3, none⟩ = some (.slice p1 p2 p3) ∧ w'.cell? ⟨b1, o1 + k * 7 + 1, none⟩ = some (.int .i64 d.W.rows) ∧ w'.cell? ⟨b1, o1 + k * 7 + 2, none⟩ = some (.int .i64 d.W.cols) ∧ w'.cell? ⟨b1, o1 + k * 7 + 3, none⟩ = some (.slice q1 q2 q3)) (first | exact ⟨cell_keep hb1 c0, cell_keep hb1 c1, cell_keep hb1 c2, cell_keep hb1 e0, cell_keep hb1 e1, cell_keep hb1 e2⟩ | exact ⟨c0, c1, c2, e0, e1, e2⟩) ((go_at_call 41; go_must (refine (matrices_sameM d.W _ _ _ (MatAt.mk (y0.drewN _)) (MatAt.mk (z0.drewN _))).mono ?_); go_must (rintro e w1 ⟨rfl, hb1⟩)))
      have fc3 := cell_keep hb1 c3
      have fc4 := cell_keep hb1 c4
      have fc5 := cell_keep hb1 c5
      have fcK := cell_keep hb1 cK
      have fe3 := cell_keep hb1 e3
      have fe4 := cell_keep hb1 e4
      have fe5 := cell_keep hb1 e5
      have feK := cell_keep hb1 eK
      clear c0 c1 c2 c3 c4 c5 cK e0 e1 e2 e3 e4 e5 eK
      go_wp2_with fail
      go_region_held3 (fun w' => w'.cell? ⟨b0, o0 + k * 7 + 4, none⟩ = some (.int .i64 d.B.rows) ∧ w'.cell? ⟨b0, o0 + k * 7 + 5, none⟩ = some (.int .i64 d.B.cols) ∧ w'.cell? ⟨b0, o0 + k * 7 + 6, none⟩ = some (.slice p6 p7 p8) ∧ w'.cell? ⟨b1, o1 + k * 7 + 4, none⟩ = some (.int .i64 d.B.rows) ∧ w'.cell? ⟨b1, o1 + k * 7 + 5, none⟩ = some (.int .i64 d.B.cols) ∧ w'.cell? ⟨b1, o1 + k * 7 + 6, none⟩ = some (.slice q6 q7 q8)) (first | exact ⟨(cell_keep hb2 fc3) ,(cell_keep hb2 fc4) ,(cell_keep hb2 fc5) ,(cell_keep hb2 fe3) ,(cell_keep hb2 fe4) ,(cell_keep hb2 fe5)⟩ | exact ⟨fc3 ,fc4 ,fc5 ,fe3 ,fe4 ,fe5⟩) ((go_at_call 41; go_must (refine (matrices_sameM d.B _ _ _ (MatAt.mk (show IntsAt _ p6 p7 p8 p9 p10 d.B.cells from (by repeat (first | fail | (with_reducible exact y1) | (with_reducible refine IntsAt.alloc ?_ _) | (with_reducible refine IntsAt.drewN ?_ _) | (with_reducible refine IntsAt.drew ?_) | (with_reducible refine IntsAt.set ?_ ?_ _; rotate_left 1; (intro h0; first | (dsimp only; omega) | omega | (simp; omega) | simp)) | (with_reducible refine IntsAt.keep ?_ hb1) | exact y1)))) (MatAt.mk (show IntsAt _ q6 q7 q8 q9 q10 d.B.cells from (by repeat (first | fail | (with_reducible exact z1) | (with_reducible refine IntsAt.alloc ?_ _) | (with_reducible refine IntsAt.drewN ?_ _) | (with_reducible refine IntsAt.drew ?_) | (with_reducible refine IntsAt.set ?_ ?_ _; rotate_left 1; (intro h0; first | (dsimp only; omega) | omega | (simp; omega) | simp)) | (with_reducible refine IntsAt.keep ?_ hb1) | exact z1))))).mono ?_); go_must (rintro e w2 ⟨rfl, hb2⟩)))
      have hbq : Below w.heap.size w w2 := (by repeat (first | fail | (with_reducible exact Below.refl _ _) | (with_reducible exact hbr) | (with_reducible refine Below.al ?_ _) | (with_reducible refine Below.drN ?_ _) | (with_reducible refine Below.drew ?_) | (with_reducible refine Below.st ?_ ?_ _; rotate_left 1; (first | (dsimp only; omega) | omega | (simp; omega) | simp)) | (with_reducible refine Below.go ?_ hb2) | (with_reducible refine Below.go ?_ hb1) | exact Below.refl _ _ | exact hbr))
      have gcK := cell_keep hb2 fcK
      have geK := cell_keep hb2 feK
      have hkk : (d.kind != d.kind) = false := by simp
      clear fc3 fc4 fc5 fcK fe3 fe4 fe5 feK y0 y1 z0 z1 hb1 hb2
      go_wp2_with fail
      go_quiet (fail)
      go_wp2
      go_roundw
      case rel => exact ⟨k + 1, by omega, by go_num, (by repeat (first | fail | (with_reducible exact Below.refl _ _) | (with_reducible exact hbq) | (with_reducible refine Below.al ?_ _) | (with_reducible refine Below.drN ?_ _) | (with_reducible refine Below.drew ?_) | (with_reducible refine Below.st ?_ ?_ _; rotate_left 1; (first | (dsimp only; omega) | omega | (simp; omega) | simp)) | exact Below.refl _ _ | exact hbq))⟩
      case measure => simp [intOf]; omega
    · go_wp2
      go_ret
      exact ⟨rfl, hbr⟩
end Go.Proofs.YtgknjikjjklaiaaDoor
