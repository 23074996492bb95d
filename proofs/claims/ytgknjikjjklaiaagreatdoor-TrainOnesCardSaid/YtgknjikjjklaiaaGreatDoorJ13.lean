/- Texts joined: RTrain1, Mat2, Made. -/
import Derived.Test.YtgknjikjjklaiaaGreatDoorJ09
import Derived.Test.YtgknjikjjklaiaaGreatDoorJ11
import Derived.Test.YtgknjikjjklaiaaGreatDoorJ12
import Derived.Test.YtgknjikjjklaiaaGreatDoorJ10
import Derived.Deep.RegionHeld3
import Derived.Test.YtgknjikjjklaiaaGreatDoorJ06
import Derived.Deep.AppendLies
import Derived.Deep.DrawnRows
import Derived.Deep.DeepMust
import Derived.Deep.RegionLaw
import Derived.BigRegion
import Derived.Test.YtgknjikjjklaiaaGreatDoorProg
import Derived.Test.YtgknjikjjklaiaaGreatDoorJ05
import Derived.ProofKit
section
set_option linter.unusedVariables false
set_option linter.unusedSimpArgs false
set_option linter.unusedSectionVars false
set_option maxRecDepth 100000
namespace Gal
open Go Go.RowKit
section
variable {w : World} {b i c j p : Nat} {z0 z1 z2 z3 z4 z5 z6 x0 x1 x2 x3 x4 x5 s0 s1 s2 : Value} {T : TypeId}
theorem cells_sw (s : Box w p [s0, s1, s2] T) (m : Cells6 w c j x0 x1 x2 x3 x4 x5) (l : Cells7 w b i z0 z1 z2 z3 z4 z5 z6) :
  w.cell? ⟨p, 0, none⟩ = some s0 ∧ w.cell? ⟨p, 1, none⟩ = some s1 ∧ w.cell? ⟨c, j, none⟩ = some x0 ∧ w.cell? ⟨c, j + 1, none⟩ = some x1 ∧ w.cell? ⟨c, j + 2, none⟩ = some x2 ∧ w.cell? ⟨b, i + 1, none⟩ = some z1 ∧ w.cell? ⟨b, i + 2, none⟩ = some z2 ∧ w.cell? ⟨b, i + 3, none⟩ = some z3 := ⟨s.cell 0, s.cell 1, m.c0, m.c1, m.c2, l.c1, l.c2, l.c3⟩
theorem cells_sb (s : Box w p [s0, s1, s2] T) (m : Cells6 w c j x0 x1 x2 x3 x4 x5) (l : Cells7 w b i z0 z1 z2 z3 z4 z5 z6) :
  w.cell? ⟨p, 0, none⟩ = some s0 ∧ w.cell? ⟨p, 1, none⟩ = some s1 ∧ w.cell? ⟨c, j + 3, none⟩ = some x3 ∧ w.cell? ⟨c, j + 4, none⟩ = some x4 ∧ w.cell? ⟨c, j + 5, none⟩ = some x5 ∧ w.cell? ⟨b, i + 4, none⟩ = some z4 ∧ w.cell? ⟨b, i + 5, none⟩ = some z5 ∧ w.cell? ⟨b, i + 6, none⟩ = some z6 := ⟨s.cell 0, s.cell 1, m.c3, m.c4, m.c5, l.c4, l.c5, l.c6⟩
end
end Gal
namespace Go.Proofs.YtgknjikjjklaiaaGreatDoor
open Go.RowKit Gal
set_option maxHeartbeats 4000000
theorem refStateFault_any (s : Sta) (F G : Nat → Prop) (a0 a1 : Option Addr) (n n1 k0 k1 b0 b1 o0 o1 : Nat) (w : World) (h0 : RowAt Form.lay w F a0 n k0 b0 o0 s.N) (h1 : RowAt Form.grd w G a1 n1 k1 b1 o1 s.V) :
  Calls Tryz.prog 15 #[.agg #[.slice a0 n k0, .slice a1 n1 k1, .int .i64 s.steps]] w fun e w' => e = .returned (.int .i64 s.fault) ∧ Below w.heap.size w w' := by
 have HL0 := Lib.hid h0.len
 have HL1 := Lib.hid h1.len
 have hm := h0.max
 have hm1 := h1.max
 unfold maxLen at hm hm1
 by_cases g1 : 12 < n
 ·have HF : Hid (s.fault = 3) := Lib.hid (by unfold Sta.fault; rw [if_pos (by rw [HL0.out]; exact g1)])
  have e1 : ((n : Int) > 12) = True := eq_true (by omega)
  clear g1
  rw [show s.fault = 3 from HF.out]
  go_enter Tryz.func15, Tryz.ntmps15
  go_wp2
  go_ret
  exact ⟨by rfl, Below.x0⟩
 ·have e1 : ((n : Int) > 12) = False := eq_false (by omega)
  by_cases g2 : n1 = n
  ·have e2 : ((n1 : Int) != (n : Int)) = false := by rw [bne_eq_false_iff_eq]; omega
   by_cases g3 : s.steps < 0
   ·have HF : Hid (s.fault = 1) := Lib.hid (by unfold Sta.fault; rw [if_neg (by rw [HL0.out]; exact g1), if_neg (by rw [HL0.out, HL1.out]; omega), if_pos (Or.inl g3)])
    have e3 : (s.steps < 0) = True := eq_true g3
    clear g1 g2 g3
    rw [show s.fault = 1 from HF.out]
    go_enter Tryz.func15, Tryz.ntmps15
    go_wp2
    go_ret
    exact ⟨by rfl, Below.x0⟩
   ·have e3 : (s.steps < 0) = False := eq_false g3
    by_cases g4 : 1000000000 < s.steps
    ·have HF : Hid (s.fault = 1) := Lib.hid (by unfold Sta.fault; rw [if_neg (by rw [HL0.out]; exact g1), if_neg (by rw [HL0.out, HL1.out]; omega), if_pos (Or.inr g4)])
     have e4 : (s.steps > 1000000000) = True := eq_true (by omega)
     clear g1 g2 g3 g4
     rw [show s.fault = 1 from HF.out]
     go_enter Tryz.func15, Tryz.ntmps15
     go_wp2
     go_ret
     exact ⟨by rfl, Below.x0⟩
    ·have e4 : (s.steps > 1000000000) = False := eq_false (by omega)
     have HTO : Hid (s.fault = stTo s.N s.V n) := Lib.hid (by rw [Sta.fault_to (by rw [HL0.out]; exact g1) (by rw [HL0.out, HL1.out]; exact g2) (by omega), HL0.out])
     subst g2
     clear g3 g4
     go_enter Tryz.func15, Tryz.ntmps15
     go_wp2
     clear e1 e2 e3 e4
     go_loopw [3] (fun i wr => ∃ t : Nat, t ≤ n1 ∧ i = .int .i64 t ∧ Hid (stTo s.N s.V t = 0) ∧ Box wr w.heap.size [.slice a0 n1 k0, .slice a1 n1 k1, .int .i64 s.steps] 47 ∧ Below w.heap.size w wr) (fun i _ => n1 - (intOf i).toNat)
     case atStart => exact ⟨0, Nat.zero_le _, rfl, Lib.hid rfl, Box.new' _ _ [.slice a0 n1 k0, .slice a1 n1 k1, .int .i64 s.steps] _ rfl, Below.x0⟩
     case round =>
      obtain ⟨t, ht, rfl, HT, hS, hbr⟩ := hrel
      by_cases hlt : t < n1
      ·have hltI : (t : Int) < (n1 : Int) := by omega
       have hlt0 : (0 : Int) ≤ (t : Int) := by omega
       obtain rfl := h0.ptr (by omega)
       obtain rfl := h1.ptr (by omega)
       obtain ⟨a2, n2, k2, b2, o2, a3, n3, k3, b3, o3, c0, c1, c2, c3, c4, c5, c6, x1, x2⟩ := lay_cells (h0.keep hbr) hlt
       obtain ⟨a4, n4, k4, b4, o4, a5, n5, k5, b5, o5, d0, d1, d2, d3, d4, d5, y1, y2⟩ := grd_cells (h1.keep hbr) (gx_get (i := t) (by rw [HL1.out]; exact hlt))
       obtain ⟨l, hl⟩ : ∃ l, l = lx s.N t := ⟨_, rfl⟩
       obtain ⟨v, hv⟩ : ∃ v, v = gx s.V t := ⟨_, rfl⟩
       rw [← hl] at c0 c1 c2 c4 c5 x1 x2
       rw [← hv] at d0 d1 d3 d4 y1 y2
       have HX : Hid (l = lx s.N t ∧ v = gx s.V t) := Lib.hid ⟨hl, hv⟩
       have ML : Cells7 wr b0 (o0 + t * 7) (.int .i64 l.kind) (.int .i64 l.W.rows) (.int .i64 l.W.cols) (.slice a2 n2 k2) (.int .i64 l.B.rows) (.int .i64 l.B.cols) (.slice a3 n3 k3) := ⟨c0, c1, c2, c3, c4, c5, c6⟩
       have MV : Cells6 wr b1 (o1 + t * 6) (.int .i64 v.W.rows) (.int .i64 v.W.cols) (.slice a4 n4 k4) (.int .i64 v.B.rows) (.int .i64 v.B.cols) (.slice a5 n5 k5) := ⟨d0, d1, d2, d3, d4, d5⟩
       clear hl hv c0 c1 c2 c3 c4 c5 c6 d0 d1 d2 d3 d4 d5
       have e0 := ML.c0
       have e1 := ML.c1
       have e2 := ML.c2
       have e3 := ML.c3
       have e4 := ML.c4
       have e5 := ML.c5
       have e6 := ML.c6
       have S0 := hS.cell 0
       by_cases f1 : l.fault = 0
       ·have HFL := Lib.hid f1
        clear f1
        go_wp2_with fail
        refine (refLayerFault_any l _ _ ⟨a2, n2, k2, b2, o2, a3, n3, k3, b3, o3, rfl, x1, x2⟩).mono ?_
        rw [HFL.out]
        rintro e w1 ⟨rfl, hb1⟩
        clear e0 e1 e2 e3 e4 e5 e6 S0 x1 x2
        -- hb1: the Below's name
        replace ML := ML.keep hb1
        replace MV := MV.keep hb1
        replace hS := hS.keep hb1
        replace y1 := y1.keep hb1
        replace y2 := y2.keep hb1
        have e0 := MV.c0
        have e1 := MV.c1
        have e2 := MV.c2
        have S1 := hS.cell 1
        by_cases f2 : v.W.fault = 0
        ·have HFW := Lib.hid f2
         clear f2
         go_wp2_with fail
         refine (refMatFault_any v.W _ _ (MatAt.mk (show IntsAt _ a4 n4 k4 b4 o4 v.W.cells from y1))).mono ?_
         rw [HFW.out]
         rintro e w2 ⟨rfl, hb2⟩
         clear e0 e1 e2 S1 y1
         -- hb2: the Below's name
         replace ML := ML.keep hb2
         replace MV := MV.keep hb2
         replace hS := hS.keep hb2
         replace y2 := y2.keep hb2
         have e0 := MV.c3
         have e1 := MV.c4
         have e2 := MV.c5
         have S1 := hS.cell 1
         by_cases f3 : v.B.fault = 0
         ·have HFB := Lib.hid f3
          clear f3
          go_wp2_with fail
          refine (refMatFault_any v.B _ _ (MatAt.mk (show IntsAt _ a5 n5 k5 b5 o5 v.B.cells from y2))).mono ?_
          rw [HFB.out]
          rintro e w3 ⟨rfl, hb3⟩
          clear e0 e1 e2 S1 y2
          -- hb3: the Below's name
          replace ML := ML.keep hb3
          replace MV := MV.keep hb3
          replace hS := hS.keep hb3
          obtain ⟨A, hA⟩ : ∃ A, decide (likeShape v.W l.W) = A := ⟨_, rfl⟩
          obtain ⟨B, hB⟩ : ∃ B, decide (likeShape v.B l.B) = B := ⟨_, rfl⟩
          have HA := Lib.hid hA
          have HB := Lib.hid hB
          clear hA hB
          go_wp2_with fail
          go_region_held3 (fun w' => w'.cell? ⟨w.heap.size, 0, none⟩ = some (.slice (some ⟨b0, o0, none⟩) n1 k0) ∧ w'.cell? ⟨w.heap.size, 1, none⟩ = some (.slice (some ⟨b1, o1, none⟩) n1 k1) ∧ w'.cell? ⟨b1, o1 + t * 6, none⟩ = some (.int .i64 v.W.rows) ∧ w'.cell? ⟨b1, o1 + t * 6 + 1, none⟩ = some (.int .i64 v.W.cols) ∧ w'.cell? ⟨b1, o1 + t * 6 + 2, none⟩ = some (.slice a4 n4 k4) ∧ w'.cell? ⟨b0, o0 + t * 7 + 1, none⟩ = some (.int .i64 l.W.rows) ∧ w'.cell? ⟨b0, o0 + t * 7 + 2, none⟩ = some (.int .i64 l.W.cols) ∧ w'.cell? ⟨b0, o0 + t * 7 + 3, none⟩ = some (.slice a2 n2 k2)) (exact cells_sw (show Box _ w.heap.size [.slice (some ⟨b0, o0, none⟩) n1 k0, .slice (some ⟨b1, o1, none⟩) n1 k1, .int .i64 s.steps] 47 from (by repeat (first | (with_reducible first | exact hS | refine Box.alloc ?_ _ | refine Box.drewN ?_ _ | refine Box.drew ?_ | refine Box.fx ?_ _ | refine Box.keep ?_ hb6) | exact hS))) (show Cells6 _ b1 (o1 + t * 6) (.int .i64 v.W.rows) (.int .i64 v.W.cols) (.slice a4 n4 k4) (.int .i64 v.B.rows) (.int .i64 v.B.cols) (.slice a5 n5 k5) from (by repeat (first | (with_reducible first | exact MV | refine Cells6.alloc ?_ _ | refine Cells6.drewN ?_ _ | refine Cells6.drew ?_ | (refine Cells6.far ?_ ?_ _; rotate_left 1; (first | (dsimp only; omega) | omega | (simp; omega) | simp)) | refine Cells6.keep ?_ hb6) | exact MV))) (show Cells7 _ b0 (o0 + t * 7) (.int .i64 l.kind) (.int .i64 l.W.rows) (.int .i64 l.W.cols) (.slice a2 n2 k2) (.int .i64 l.B.rows) (.int .i64 l.B.cols) (.slice a3 n3 k3) from (by repeat (first | (with_reducible first | exact ML | refine Cells7.alloc ?_ _ | refine Cells7.drewN ?_ _ | refine Cells7.drew ?_ | (refine Cells7.far ?_ ?_ _; rotate_left 1; (first | (dsimp only; omega) | omega | (simp; omega) | simp)) | refine Cells7.keep ?_ hb6) | exact ML)))) ((go_at_call 45; go_must (refine (refShaped_any v.W l.W _ _ _ _ _ _ _).mono ?_); (try rw [HA.out]); go_must (rintro e w6 ⟨rfl, hb6⟩)))
          have ML' : Cells7 w6 b0 (o0 + t * 7) (.int .i64 l.kind) (.int .i64 l.W.rows) (.int .i64 l.W.cols) (.slice a2 n2 k2) (.int .i64 l.B.rows) (.int .i64 l.B.cols) (.slice a3 n3 k3) := (by repeat (first | (with_reducible first | exact ML | refine Cells7.alloc ?_ _ | refine Cells7.drewN ?_ _ | refine Cells7.drew ?_ | (refine Cells7.far ?_ ?_ _; rotate_left 1; (first | (dsimp only; omega) | omega | (simp; omega) | simp)) | refine Cells7.keep ?_ hb6) | exact ML))
          have MV' : Cells6 w6 b1 (o1 + t * 6) (.int .i64 v.W.rows) (.int .i64 v.W.cols) (.slice a4 n4 k4) (.int .i64 v.B.rows) (.int .i64 v.B.cols) (.slice a5 n5 k5) := (by repeat (first | (with_reducible first | exact MV | refine Cells6.alloc ?_ _ | refine Cells6.drewN ?_ _ | refine Cells6.drew ?_ | (refine Cells6.far ?_ ?_ _; rotate_left 1; (first | (dsimp only; omega) | omega | (simp; omega) | simp)) | refine Cells6.keep ?_ hb6) | exact MV))
          have hS' : Box w6 w.heap.size [.slice (some ⟨b0, o0, none⟩) n1 k0, .slice (some ⟨b1, o1, none⟩) n1 k1, .int .i64 s.steps] 47 := (by repeat (first | (with_reducible first | exact hS | refine Box.alloc ?_ _ | refine Box.drewN ?_ _ | refine Box.drew ?_ | refine Box.fx ?_ _ | refine Box.keep ?_ hb6) | exact hS))
          clear ML MV hS
          go_wp2_with fail
          go_region_held3 (fun w' => w'.cell? ⟨w.heap.size, 0, none⟩ = some (.slice (some ⟨b0, o0, none⟩) n1 k0) ∧ w'.cell? ⟨w.heap.size, 1, none⟩ = some (.slice (some ⟨b1, o1, none⟩) n1 k1) ∧ w'.cell? ⟨b1, o1 + t * 6 + 3, none⟩ = some (.int .i64 v.B.rows) ∧ w'.cell? ⟨b1, o1 + t * 6 + 4, none⟩ = some (.int .i64 v.B.cols) ∧ w'.cell? ⟨b1, o1 + t * 6 + 5, none⟩ = some (.slice a5 n5 k5) ∧ w'.cell? ⟨b0, o0 + t * 7 + 4, none⟩ = some (.int .i64 l.B.rows) ∧ w'.cell? ⟨b0, o0 + t * 7 + 5, none⟩ = some (.int .i64 l.B.cols) ∧ w'.cell? ⟨b0, o0 + t * 7 + 6, none⟩ = some (.slice a3 n3 k3)) (exact cells_sb (show Box _ w.heap.size [.slice (some ⟨b0, o0, none⟩) n1 k0, .slice (some ⟨b1, o1, none⟩) n1 k1, .int .i64 s.steps] 47 from (by repeat (first | (with_reducible first | exact hS' | refine Box.alloc ?_ _ | refine Box.drewN ?_ _ | refine Box.drew ?_ | refine Box.fx ?_ _ | refine Box.keep ?_ hb7) | exact hS'))) (show Cells6 _ b1 (o1 + t * 6) (.int .i64 v.W.rows) (.int .i64 v.W.cols) (.slice a4 n4 k4) (.int .i64 v.B.rows) (.int .i64 v.B.cols) (.slice a5 n5 k5) from (by repeat (first | (with_reducible first | exact MV' | refine Cells6.alloc ?_ _ | refine Cells6.drewN ?_ _ | refine Cells6.drew ?_ | (refine Cells6.far ?_ ?_ _; rotate_left 1; (first | (dsimp only; omega) | omega | (simp; omega) | simp)) | refine Cells6.keep ?_ hb7) | exact MV'))) (show Cells7 _ b0 (o0 + t * 7) (.int .i64 l.kind) (.int .i64 l.W.rows) (.int .i64 l.W.cols) (.slice a2 n2 k2) (.int .i64 l.B.rows) (.int .i64 l.B.cols) (.slice a3 n3 k3) from (by repeat (first | (with_reducible first | exact ML' | refine Cells7.alloc ?_ _ | refine Cells7.drewN ?_ _ | refine Cells7.drew ?_ | (refine Cells7.far ?_ ?_ _; rotate_left 1; (first | (dsimp only; omega) | omega | (simp; omega) | simp)) | refine Cells7.keep ?_ hb7) | exact ML')))) ((go_at_call 45; go_must (refine (refShaped_any v.B l.B _ _ _ _ _ _ _).mono ?_); (try rw [HB.out]); go_must (rintro e w7 ⟨rfl, hb7⟩)))
          have hS : Box w7 w.heap.size [.slice (some ⟨b0, o0, none⟩) n1 k0, .slice (some ⟨b1, o1, none⟩) n1 k1, .int .i64 s.steps] 47 := (by repeat (first | (with_reducible first | exact hS' | refine Box.alloc ?_ _ | refine Box.drewN ?_ _ | refine Box.drew ?_ | refine Box.fx ?_ _ | refine Box.keep ?_ hb7) | exact hS'))
          have hbe : Below w.heap.size w w7 := (by repeat (first | (with_reducible first | exact Below.refl _ _ | exact hbr | refine Below.al ?_ _ | refine Below.drN ?_ _ | refine Below.drew ?_ | refine Below.sx ?_ _ | refine Below.go ?_ hb7 | refine Below.go ?_ hb6 | refine Below.go ?_ hb3 | refine Below.go ?_ hb2 | refine Below.go ?_ hb1) | exact Below.refl _ _ | exact hbr))
          clear ML' MV' hS'
          have HNZ : Hid ((2 : Int) ≠ 0) := Lib.hid (by decide)
          have HPT : Hid (stPart (lx s.N t) (gx s.V t) = if A = true ∧ B = true then 0 else 2) := Lib.hid (by
           rw [← HX.out.1, ← HX.out.2, ← HA.out, ← HB.out]
           unfold stPart
           rw [if_neg (by simp [HFL.out]), if_neg (by simp [HFW.out]), if_neg (by simp [HFB.out])]
           simp only [decide_eq_true_eq])
          cases A with
          | true =>
           cases B with
           | true =>
            have HNX : Hid (stTo s.N s.V (t + 1) = 0) := Lib.hid (by rw [stTo_next HT.out, HPT.out]; rfl)
            go_wp2
            go_roundw
            case rel => exact ⟨t + 1, by omega, by go_num, HNX, hS, hbe⟩
            case measure => simp [intOf]; omega
           | false =>
            have HR : Hid (s.fault = 2) := Lib.hid (by rw [HTO.out, stTo_stop hlt HT.out (by rw [HPT.out]; decide), HPT.out]; rfl)
            go_wp2
            go_ret
            exact ⟨by rw [HR.out]; rfl, hbe⟩
          | false =>
           have HR : Hid (s.fault = 2) := Lib.hid (by rw [HTO.out, stTo_stop hlt HT.out (by rw [HPT.out]; simp), HPT.out]; simp)
           go_wp2
           go_ret
           exact ⟨by rw [HR.out]; rfl, hbe⟩
         ·have HNZ := Lib.hid f3
          have q1 : (v.B.fault != 0) = true := by rw [bne_iff_ne]; exact f3
          clear f3
          go_wp2_with fail
          refine (refMatFault_any v.B _ _ (MatAt.mk (show IntsAt _ a5 n5 k5 b5 o5 v.B.cells from y2))).mono ?_
          rintro e w3 ⟨rfl, hb3⟩
          have hbe : Below w.heap.size w w3 := (by repeat (first | (with_reducible first | exact Below.refl _ _ | exact hbr | refine Below.al ?_ _ | refine Below.drN ?_ _ | refine Below.drew ?_ | refine Below.sx ?_ _ | refine Below.go ?_ hb3 | refine Below.go ?_ hb2 | refine Below.go ?_ hb1) | exact Below.refl _ _ | exact hbr))
          clear e0 e1 e2 S1 y2 ML MV hS
          -- v.B.fault: the fault, (by unfold stPart; rw [if_neg (by simp [HFL.out]), if_neg (by simp [HFW.out]), if_pos HNZ.out]): why, hbe: Below
          have HR : Hid (s.fault = v.B.fault) := Lib.hid (by
           have h1 : stPart (lx s.N t) (gx s.V t) = v.B.fault := by rw [← HX.out.1, ← HX.out.2]; exact (by unfold stPart; rw [if_neg (by simp [HFL.out]), if_neg (by simp [HFW.out]), if_pos HNZ.out])
           rw [HTO.out, stTo_stop hlt HT.out (by rw [h1]; exact HNZ.out), h1])
          go_wp2
          go_ret
          exact ⟨by rw [HR.out]; rfl, (Below.y0 hbe)⟩
        ·have HNZ := Lib.hid f2
         have q1 : (v.W.fault == 0) = false := by rw [beq_eq_false_iff_ne]; exact f2
         have q2 : (v.W.fault != 0) = true := by rw [bne_iff_ne]; exact f2
         clear f2
         go_wp2_with fail
         refine (refMatFault_any v.W _ _ (MatAt.mk (show IntsAt _ a4 n4 k4 b4 o4 v.W.cells from y1))).mono ?_
         rintro e w2 ⟨rfl, hb2⟩
         have hbe : Below w.heap.size w w2 := (by repeat (first | (with_reducible first | exact Below.refl _ _ | exact hbr | refine Below.al ?_ _ | refine Below.drN ?_ _ | refine Below.drew ?_ | refine Below.sx ?_ _ | refine Below.go ?_ hb2 | refine Below.go ?_ hb1) | exact Below.refl _ _ | exact hbr))
         clear e0 e1 e2 S1 y1 y2 ML MV hS
         -- v.W.fault: the fault, (by unfold stPart; rw [if_neg (by simp [HFL.out]), if_pos HNZ.out]): why, hbe: Below
         have HR : Hid (s.fault = v.W.fault) := Lib.hid (by
          have h1 : stPart (lx s.N t) (gx s.V t) = v.W.fault := by rw [← HX.out.1, ← HX.out.2]; exact (by unfold stPart; rw [if_neg (by simp [HFL.out]), if_pos HNZ.out])
          rw [HTO.out, stTo_stop hlt HT.out (by rw [h1]; exact HNZ.out), h1])
         go_wp2
         go_ret
         exact ⟨by rw [HR.out]; rfl, (Below.y0 hbe)⟩
       ·have HNZ := Lib.hid f1
        have q1 : (l.fault == 0) = false := by rw [beq_eq_false_iff_ne]; exact f1
        have q2 : (l.fault != 0) = true := by rw [bne_iff_ne]; exact f1
        clear f1
        go_wp2_with fail
        refine (refLayerFault_any l _ _ ⟨a2, n2, k2, b2, o2, a3, n3, k3, b3, o3, rfl, x1, x2⟩).mono ?_
        rintro e w1 ⟨rfl, hb1⟩
        have hbe : Below w.heap.size w w1 := (Below.y1 hb1 hbr)
        clear e0 e1 e2 e3 e4 e5 e6 S0 x1 x2 y1 y2 ML MV hS
        -- l.fault: the fault, (if_pos HNZ.out): why, hbe: Below
        have HR : Hid (s.fault = l.fault) := Lib.hid (by
         have h1 : stPart (lx s.N t) (gx s.V t) = l.fault := by rw [← HX.out.1, ← HX.out.2]; exact (if_pos HNZ.out)
         rw [HTO.out, stTo_stop hlt HT.out (by rw [h1]; exact HNZ.out), h1])
        go_wp2
        go_ret
        exact ⟨by rw [HR.out]; rfl, (Below.y0 hbe)⟩
      ·obtain rfl : t = n1 := by omega
       have HR : Hid (s.fault = 0) := Lib.hid (by rw [HTO.out, HT.out])
       have S0 := hS.cell 0
       go_wp2
       go_ret
       exact ⟨by rw [HR.out]; rfl, (Below.y0 hbr)⟩
  ·have HF : Hid (s.fault = 2) := Lib.hid (by unfold Sta.fault; rw [if_neg (by rw [HL0.out]; exact g1), if_pos (by rw [HL0.out, HL1.out]; exact g2)])
   have e2 : ((n1 : Int) != (n : Int)) = true := by rw [bne_iff_ne]; omega
   clear g1 g2
   rw [show s.fault = 2 from HF.out]
   go_enter Tryz.func15, Tryz.ntmps15
   go_wp2
   go_ret
   exact ⟨by rfl, Below.x0⟩
end Go.Proofs.YtgknjikjjklaiaaGreatDoor
end
section
set_option linter.unusedVariables false
set_option linter.unusedSimpArgs false
namespace Go.Proofs.YtgknjikjjklaiaaGreatDoor
open Go.RowKit Gal
attribute [local go_sem ↓] Go.wp_at_zero Go.wp_at_succ
theorem info_int : (Tryz.prog.info? 3).map (fun i => (i.zero, i.size, i.bytes)) = some (some (.int .i64 0), 1, 8) := by kernel_rfl
set_option maxRecDepth 100000 in
set_option maxHeartbeats 1000000 in
theorem filled_any (R C : Nat) (hR : R ≤ 24) (hC : C ≤ 24) (fid : FuncId) (cs : Array Value) (g : Nat → Nat → Int) (w : World)
  (hcf : ∀ (vs : Array Value) (W : World), (callFunc fid vs).run Tryz.prog W = .ok (.enter fid vs) W)
  (hg : ∀ (i j : Nat), i < R → j < C → ∀ W, Below w.heap.size w W → Calls Tryz.prog fid (#[.int .i64 i, .int .i64 j] ++ cs) W fun e W' => e = .returned (.int .i64 (g i j)) ∧ ∃ n, W' = W.drewN n) :
  Calls Tryz.prog 96 #[.int .i64 R, .int .i64 C, .func (.func fid) #[] cs] w fun e w' =>
   ∃ a cap b, e = .returned (.agg #[.int .i64 R, .int .i64 C, .slice a (R * C : Nat) cap]) ∧ (0 < R * C → w.heap.size ≤ b) ∧ IntsAt w' a (R * C) cap b 0 (grid g C R) ∧ Below w.heap.size w w' := by
 have HG := Lib.hid hg
 clear hg
 have hrc : R * C ≤ 576 := Nat.mul_le_mul hR hC
 have hrc' : (R : Int) * C ≤ 576 := by rw [← Int.natCast_mul]; omega
 have hrc0 : 0 ≤ (R : Int) * C := by rw [← Int.natCast_mul]; omega
 obtain ⟨i0, hi, hz0, hz1, hz2⟩ := info_parts info_int
 have hmk := fun W => run_make_rowN (P := Tryz.prog) 23 3 i0 _ Tryz.underlying23 hi hz0 .i64 .i64 0 (R * C) 0 (R * C) rfl (by rw [Int.natCast_mul]) (Nat.zero_le _) (by rw [hz2]; omega) (by omega) W
 rw [hz1, Nat.mul_one] at hmk
 go_enter Tryz.func96, Tryz.ntmps96
 go_wp2
 go_loopw [18] (fun i wr => ∃ (k : Nat) (v : Value), k ≤ R ∧ i = .int .i64 k ∧ Below w.heap.size w wr ∧ Box wr w.heap.size [.int .i64 0, .int .i64 0, .slice none 0 0] 25 ∧
   Box wr (w.heap.size + 1 + 1) [.int .i64 R, .int .i64 C, v] 25 ∧ wr.ownsRow (w.heap.size + 1) 3 1 v (k * C) ((grid g C k).map (Value.int .i64))) (fun i _ => R - (intOf i).toNat)
 case atStart =>
  refine ⟨0, .slice (some ⟨w.heap.size + 1, 0, none⟩) 0 (R * C), Nat.zero_le _, rfl, (((Below.refl _ _).alloc (Nat.le_refl _) _).alloc (by simp) _).alloc (by simp; omega) _, ((Box.new _ _ _).alloc _).alloc _, ?_, ?_⟩
  ·exact Box.new' _ _ _ _ (by simp)
  ·rw [Nat.zero_mul]
   exact (own_made (w.alloc _) _ _ _ _ _ _ (by simp) (by simp) (by unfold maxLen; omega) (by rw [size_madeCells]; omega)).alloc _
 case round =>
  obtain ⟨k, v, hk, rfl, hb, hB0, hBM, hown⟩ := hrel
  by_cases hlt : k < R
  ·go_wp2
   obtain ⟨wo, hwo⟩ : ∃ wo : World, wo = wr := ⟨_, rfl⟩
   go_loopw [22] (fun j wi => ∃ (l : Nat) (v : Value), l ≤ C ∧ j = .int .i64 l ∧ Below w.heap.size w wi ∧ Box wi w.heap.size [.int .i64 0, .int .i64 0, .slice none 0 0] 25 ∧
     Box wi (w.heap.size + 1 + 1) [.int .i64 R, .int .i64 C, v] 25 ∧ wi.ownsRow (w.heap.size + 1) 3 1 v (k * C + l) ((gridTo g C k l).map (Value.int .i64))) (fun j _ => C - (intOf j).toNat)
   case atStart => exact ⟨0, v, Nat.zero_le _, rfl, hb, hB0, hBM, by rw [gridTo_zero]; exact hown⟩
   case round =>
    obtain ⟨l, v, hl, rfl, hb, hB0, hBM, hown⟩ := hrel
    by_cases hlt2 : l < C
    ·have c2 := hBM.cell 2
     have f2 := hBM.thawed 2
     go_wp2
     have hvM : some (w.heap.size + 1 + 1) ≠ v.ownBlock := Ne.symm (own_ne hown hBM (by decide))
     have hv0 : some w.heap.size ≠ v.ownBlock := Ne.symm (own_ne hown hB0 (by decide))
     have hM := hBM.lt
     have cA := fun n o => ((hBM.drewN n).alloc o).cell 2
     have hkl : k * C + l < R * C := by
      have := Nat.mul_le_mul_right C (show k + 1 ≤ R by omega)
      rw [Nat.succ_mul] at this
      omega
     go_region_law (first | ((refine at_oper ⟨some 32, _, _, _, _, _⟩ ?_; go_must (refine step_append_lies _ rfl (.tmp 26) (.tmp 31) 23 rfl (w.heap.size + 1) 3 i0 (.int .i64 0) 1 8 Tryz.underlying23 hi hz0 hz1 hz2 (by rfl) (by decide) v (k * C + l) ((gridTo g C k l).map (Value.int .i64)) (by rfl) (by exact hown.alloc _) ⟨wr.heap.size, 0, none⟩ 1 1 [.int .i64 (g k l)] (by rfl) (by rfl) (World.news_of_block (cs := #[.int .i64 (g k l)]) (by exact heap_alloc_new wr _)) (by simp [Value.oneCell']) (by decide) (by unfold maxLen; omega) (by omega) (by simp; omega) (wr.heap.size + 1) (by simp) ?_); intro g1 cap1 w1 hown1 hgrow hat hlt1; have hB1 := (((hBM.drewN _).alloc _).grown hgrow hvM); have c21 := hB1.cell 2; have f21 := hB1.thawed 2)) | (go_simp; refine (HG.out k l hlt hlt2 _ ?_).mono ?_; (exact hb.drew); rintro e W' ⟨rfl, nd, rfl⟩))
     all_goals (
      go_wp2
      go_roundw
      case rel => exact ⟨l + 1, .slice (some ⟨g1, 0, none⟩) (k * C + l + 1) cap1, by omega, by go_num, (below_append hb (by omega) hown (Nat.le_succ _) hgrow).setCell (by simp; omega) _,
       (((hB0.drewN _).alloc _).grown hgrow hv0).far (by simp; omega) _, hB1.set 2 _, by
        rw [← gridTo_cell, List.map_append]; exact own_set hown1 (own_ne hown1 hB1 (by decide)) _⟩
      case measure => simp [intOf]; omega)
    ·go_wp2
     go_roundw
     case rel =>
      obtain rfl : l = C := by omega
      exact ⟨k + 1, v, by omega, by go_num, hb, hB0, hBM, by rw [Nat.succ_mul, ← gridTo_row]; exact hown⟩
     case measure => simp [intOf]; omega
  ·obtain rfl : k = R := by omega
   obtain ⟨av, cv, rfl⟩ := own_slice hown
   have c0 := hBM.cell 0
   have c1 := hBM.cell 1
   have c2 := hBM.cell 2
   have d0 := hB0.cell 0
   have d1 := hB0.cell 1
   have d2 := hB0.cell 2
   have e0 := hB0.thawed
   have HO := Lib.hid hown
   clear hown
   go_wp2
   obtain ⟨a', c', b', he, hbb, hin⟩ := IntsAt.of_own HO.out
   cases he
   have hd : some w.heap.size ≠ (Value.slice av (k * C) cv).ownBlock := Ne.symm (own_ne HO.out hB0 (by decide))
   refine bodyPost_ret (v := .agg #[.int .i64 k, .int .i64 C, .slice av (k * C) cv]) (by simp [results, Tryz.results96, go_sem, d0, d1, d2]) rfl ⟨av, cv, b', rfl, ?_, ?_, ?_⟩
   ·intro h0; have := hbb h0; omega
   ·exact ((hin.set (fun h0 => by have := hbb h0; simp; omega) _).set (fun h0 => by have := hbb h0; simp; omega) _).set (fun h0 => by have := hbb h0; simp; omega) _
   ·exact ((hb.setCell (by simp) _).setCell (by simp) _).setCell (by simp) _
end Go.Proofs.YtgknjikjjklaiaaGreatDoor
end
section
set_option linter.unusedVariables false
set_option linter.unusedSimpArgs false
namespace Go.Proofs.YtgknjikjjklaiaaGreatDoor
open Go.RowKit Gal
theorem ints1 {w : World} {b : Nat} {x : Int} {t : TypeId} (h : Box w b [.int .i64 x] t) : IntsAt w (some ⟨b, 0, none⟩) 1 1 b 0 [x] := by
 refine ⟨rfl, Nat.le_refl _, by unfold maxLen; omega, fun _ => rfl, fun _ => h.lt, fun i hi => ?_⟩
 obtain rfl : i = 0 := by omega
 exact (h.cell _).trans rfl
end Go.Proofs.YtgknjikjjklaiaaGreatDoor
end
