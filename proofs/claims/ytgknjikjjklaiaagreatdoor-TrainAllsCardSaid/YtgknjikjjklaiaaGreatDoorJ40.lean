/- Texts joined: RTrain1. -/
import Derived.Test.YtgknjikjjklaiaaGreatDoorJ08
import Derived.Test.YtgknjikjjklaiaaGreatDoorJ39
import Derived.Test.YtgknjikjjklaiaaGreatDoorJ20
import Derived.Test.YtgknjikjjklaiaaGreatDoorJ12
import Derived.Deep.RegionHeld3
section
set_option linter.unusedVariables false
set_option linter.unusedSimpArgs false
set_option linter.unusedSectionVars false
set_option maxRecDepth 100000
namespace Gal
open Go Go.RowKit
section
variable {w : World} {b i c j p : Nat} {z0 z1 z2 z3 z4 z5 z6 x0 x1 x2 x3 x4 x5 s0 s1 s2 : Value} {T : TypeId}
theorem cells_sw (s : Box w p [s0, s1, s2] T) (m : Cells6 w c j x0 x1 x2 x3 x4 x5) (l : Cells7 w b i z0 z1 z2 z3 z4 z5 z6) :
  w.cell? ⟨p, 0, none⟩ = some s0 ∧ w.cell? ⟨p, 1, none⟩ = some s1 ∧ w.cell? ⟨c, j, none⟩ = some x0 ∧ w.cell? ⟨c, j + 1, none⟩ = some x1 ∧ w.cell? ⟨c, j + 2, none⟩ = some x2 ∧ w.cell? ⟨b, i + 1, none⟩ = some z1 ∧ w.cell? ⟨b, i + 2, none⟩ = some z2 ∧ w.cell? ⟨b, i + 3, none⟩ = some z3 := ⟨s.cell 0, s.cell 1, m.c0, m.c1, m.c2, l.c1, l.c2, l.c3⟩
theorem cells_sb (s : Box w p [s0, s1, s2] T) (m : Cells6 w c j x0 x1 x2 x3 x4 x5) (l : Cells7 w b i z0 z1 z2 z3 z4 z5 z6) :
  w.cell? ⟨p, 0, none⟩ = some s0 ∧ w.cell? ⟨p, 1, none⟩ = some s1 ∧ w.cell? ⟨c, j + 3, none⟩ = some x3 ∧ w.cell? ⟨c, j + 4, none⟩ = some x4 ∧ w.cell? ⟨c, j + 5, none⟩ = some x5 ∧ w.cell? ⟨b, i + 4, none⟩ = some z4 ∧ w.cell? ⟨b, i + 5, none⟩ = some z5 ∧ w.cell? ⟨b, i + 6, none⟩ = some z6 := ⟨s.cell 0, s.cell 1, m.c3, m.c4, m.c5, l.c4, l.c5, l.c6⟩
end
end Gal
namespace Go.Proofs.YtgknjikjjklaiaaGreatDoor
open Go.RowKit Gal
set_option maxHeartbeats 4000000
theorem refStateFault_any (s : Sta) (F G : Nat → Prop) (a0 a1 : Option Addr) (n n1 k0 k1 b0 b1 o0 o1 : Nat) (w : World) (h0 : RowAt Form.lay w F a0 n k0 b0 o0 s.N) (h1 : RowAt Form.grd w G a1 n1 k1 b1 o1 s.V) :
  Calls Tryz.prog 15 #[.agg #[.slice a0 n k0, .slice a1 n1 k1, .int .i64 s.steps]] w fun e w' => e = .returned (.int .i64 s.fault) ∧ Below w.heap.size w w' := by
 have HL0 := Lib.hid h0.len
 have HL1 := Lib.hid h1.len
 have hm := h0.max
 have hm1 := h1.max
 unfold maxLen at hm hm1
 by_cases g1 : 12 < n
 ·have HF : Hid (s.fault = 3) := Lib.hid (by unfold Sta.fault; rw [if_pos (by rw [HL0.out]; exact g1)])
  have e1 : ((n : Int) > 12) = True := eq_true (by omega)
  clear g1
  rw [show s.fault = 3 from HF.out]
  go_enter Tryz.func15, Tryz.ntmps15
  go_wp2
  go_ret
  exact ⟨by rfl, Below.x0⟩
 ·have e1 : ((n : Int) > 12) = False := eq_false (by omega)
  by_cases g2 : n1 = n
  ·have e2 : ((n1 : Int) != (n : Int)) = false := by rw [bne_eq_false_iff_eq]; omega
   by_cases g3 : s.steps < 0
   ·have HF : Hid (s.fault = 1) := Lib.hid (by unfold Sta.fault; rw [if_neg (by rw [HL0.out]; exact g1), if_neg (by rw [HL0.out, HL1.out]; omega), if_pos (Or.inl g3)])
    have e3 : (s.steps < 0) = True := eq_true g3
    clear g1 g2 g3
    rw [show s.fault = 1 from HF.out]
    go_enter Tryz.func15, Tryz.ntmps15
    go_wp2
    go_ret
    exact ⟨by rfl, Below.x0⟩
   ·have e3 : (s.steps < 0) = False := eq_false g3
    by_cases g4 : 1000000000 < s.steps
    ·have HF : Hid (s.fault = 1) := Lib.hid (by unfold Sta.fault; rw [if_neg (by rw [HL0.out]; exact g1), if_neg (by rw [HL0.out, HL1.out]; omega), if_pos (Or.inr g4)])
     have e4 : (s.steps > 1000000000) = True := eq_true (by omega)
     clear g1 g2 g3 g4
     rw [show s.fault = 1 from HF.out]
     go_enter Tryz.func15, Tryz.ntmps15
     go_wp2
     go_ret
     exact ⟨by rfl, Below.x0⟩
    ·have e4 : (s.steps > 1000000000) = False := eq_false (by omega)
     have HTO : Hid (s.fault = stTo s.N s.V n) := Lib.hid (by rw [Sta.fault_to (by rw [HL0.out]; exact g1) (by rw [HL0.out, HL1.out]; exact g2) (by omega), HL0.out])
     subst g2
     clear g3 g4
     go_enter Tryz.func15, Tryz.ntmps15
     go_wp2
     clear e1 e2 e3 e4
     go_loopw [3] (fun i wr => ∃ t : Nat, t ≤ n1 ∧ i = .int .i64 t ∧ Hid (stTo s.N s.V t = 0) ∧ Box wr w.heap.size [.slice a0 n1 k0, .slice a1 n1 k1, .int .i64 s.steps] 47 ∧ Below w.heap.size w wr) (fun i _ => n1 - (intOf i).toNat)
     case atStart => exact ⟨0, Nat.zero_le _, rfl, Lib.hid rfl, Box.new' _ _ [.slice a0 n1 k0, .slice a1 n1 k1, .int .i64 s.steps] _ rfl, Below.x0⟩
     case round =>
      obtain ⟨t, ht, rfl, HT, hS, hbr⟩ := hrel
      by_cases hlt : t < n1
      ·have hltI : (t : Int) < (n1 : Int) := by omega
       have hlt0 : (0 : Int) ≤ (t : Int) := by omega
       obtain rfl := h0.ptr (by omega)
       obtain rfl := h1.ptr (by omega)
       obtain ⟨a2, n2, k2, b2, o2, a3, n3, k3, b3, o3, c0, c1, c2, c3, c4, c5, c6, x1, x2⟩ := lay_cells (h0.keep hbr) hlt
       obtain ⟨a4, n4, k4, b4, o4, a5, n5, k5, b5, o5, d0, d1, d2, d3, d4, d5, y1, y2⟩ := grd_cells (h1.keep hbr) (gx_get (i := t) (by rw [HL1.out]; exact hlt))
       obtain ⟨l, hl⟩ : ∃ l, l = lx s.N t := ⟨_, rfl⟩
       obtain ⟨v, hv⟩ : ∃ v, v = gx s.V t := ⟨_, rfl⟩
       rw [← hl] at c0 c1 c2 c4 c5 x1 x2
       rw [← hv] at d0 d1 d3 d4 y1 y2
       have HX : Hid (l = lx s.N t ∧ v = gx s.V t) := Lib.hid ⟨hl, hv⟩
       have ML : Cells7 wr b0 (o0 + t * 7) (.int .i64 l.kind) (.int .i64 l.W.rows) (.int .i64 l.W.cols) (.slice a2 n2 k2) (.int .i64 l.B.rows) (.int .i64 l.B.cols) (.slice a3 n3 k3) := ⟨c0, c1, c2, c3, c4, c5, c6⟩
       have MV : Cells6 wr b1 (o1 + t * 6) (.int .i64 v.W.rows) (.int .i64 v.W.cols) (.slice a4 n4 k4) (.int .i64 v.B.rows) (.int .i64 v.B.cols) (.slice a5 n5 k5) := ⟨d0, d1, d2, d3, d4, d5⟩
       clear hl hv c0 c1 c2 c3 c4 c5 c6 d0 d1 d2 d3 d4 d5
       have e0 := ML.c0
       have e1 := ML.c1
       have e2 := ML.c2
       have e3 := ML.c3
       have e4 := ML.c4
       have e5 := ML.c5
       have e6 := ML.c6
       have S0 := hS.cell 0
       by_cases f1 : l.fault = 0
       ·have HFL := Lib.hid f1
        clear f1
        go_wp2_with fail
        refine (refLayerFault_any l _ _ ⟨a2, n2, k2, b2, o2, a3, n3, k3, b3, o3, rfl, x1, x2⟩).mono ?_
        rw [HFL.out]
        rintro e w1 ⟨rfl, hb1⟩
        clear e0 e1 e2 e3 e4 e5 e6 S0 x1 x2
        -- hb1: the Below's name
        replace ML := ML.keep hb1
        replace MV := MV.keep hb1
        replace hS := hS.keep hb1
        replace y1 := y1.keep hb1
        replace y2 := y2.keep hb1
        have e0 := MV.c0
        have e1 := MV.c1
        have e2 := MV.c2
        have S1 := hS.cell 1
        by_cases f2 : v.W.fault = 0
        ·have HFW := Lib.hid f2
         clear f2
         go_wp2_with fail
         refine (refMatFault_any v.W _ _ (MatAt.mk (show IntsAt _ a4 n4 k4 b4 o4 v.W.cells from y1))).mono ?_
         rw [HFW.out]
         rintro e w2 ⟨rfl, hb2⟩
         clear e0 e1 e2 S1 y1
         -- hb2: the Below's name
         replace ML := ML.keep hb2
         replace MV := MV.keep hb2
         replace hS := hS.keep hb2
         replace y2 := y2.keep hb2
         have e0 := MV.c3
         have e1 := MV.c4
         have e2 := MV.c5
         have S1 := hS.cell 1
         by_cases f3 : v.B.fault = 0
         ·have HFB := Lib.hid f3
          clear f3
          go_wp2_with fail
          refine (refMatFault_any v.B _ _ (MatAt.mk (show IntsAt _ a5 n5 k5 b5 o5 v.B.cells from y2))).mono ?_
          rw [HFB.out]
          rintro e w3 ⟨rfl, hb3⟩
          clear e0 e1 e2 S1 y2
          -- hb3: the Below's name
          replace ML := ML.keep hb3
          replace MV := MV.keep hb3
          replace hS := hS.keep hb3
          obtain ⟨A, hA⟩ : ∃ A, decide (likeShape v.W l.W) = A := ⟨_, rfl⟩
          obtain ⟨B, hB⟩ : ∃ B, decide (likeShape v.B l.B) = B := ⟨_, rfl⟩
          have HA := Lib.hid hA
          have HB := Lib.hid hB
          clear hA hB
          go_wp2_with fail
          go_region_held3 (fun w' => w'.cell? ⟨w.heap.size, 0, none⟩ = some (.slice (some ⟨b0, o0, none⟩) n1 k0) ∧ w'.cell? ⟨w.heap.size, 1, none⟩ = some (.slice (some ⟨b1, o1, none⟩) n1 k1) ∧ w'.cell? ⟨b1, o1 + t * 6, none⟩ = some (.int .i64 v.W.rows) ∧ w'.cell? ⟨b1, o1 + t * 6 + 1, none⟩ = some (.int .i64 v.W.cols) ∧ w'.cell? ⟨b1, o1 + t * 6 + 2, none⟩ = some (.slice a4 n4 k4) ∧ w'.cell? ⟨b0, o0 + t * 7 + 1, none⟩ = some (.int .i64 l.W.rows) ∧ w'.cell? ⟨b0, o0 + t * 7 + 2, none⟩ = some (.int .i64 l.W.cols) ∧ w'.cell? ⟨b0, o0 + t * 7 + 3, none⟩ = some (.slice a2 n2 k2)) (exact cells_sw (show Box _ w.heap.size [.slice (some ⟨b0, o0, none⟩) n1 k0, .slice (some ⟨b1, o1, none⟩) n1 k1, .int .i64 s.steps] 47 from (by first | exact hS.k1 hb6 | exact hS.k)) (show Cells6 _ b1 (o1 + t * 6) (.int .i64 v.W.rows) (.int .i64 v.W.cols) (.slice a4 n4 k4) (.int .i64 v.B.rows) (.int .i64 v.B.cols) (.slice a5 n5 k5) from (by repeat (first | (with_reducible first | exact MV | refine Cells6.alloc ?_ _ | refine Cells6.drewN ?_ _ | refine Cells6.drew ?_ | (refine Cells6.far ?_ ?_ _; rotate_left 1; (first | (dsimp only; omega) | omega | (simp; omega) | simp)) | refine Cells6.keep ?_ hb6) | exact MV))) (show Cells7 _ b0 (o0 + t * 7) (.int .i64 l.kind) (.int .i64 l.W.rows) (.int .i64 l.W.cols) (.slice a2 n2 k2) (.int .i64 l.B.rows) (.int .i64 l.B.cols) (.slice a3 n3 k3) from (by repeat (first | (with_reducible first | exact ML | refine Cells7.alloc ?_ _ | refine Cells7.drewN ?_ _ | refine Cells7.drew ?_ | (refine Cells7.far ?_ ?_ _; rotate_left 1; (first | (dsimp only; omega) | omega | (simp; omega) | simp)) | refine Cells7.keep ?_ hb6) | exact ML)))) ((go_at_call 45; go_must (refine (refShaped_any v.W l.W _ _ _ _ _ _ _).mono ?_); (try rw [HA.out]); go_must (rintro e w6 ⟨rfl, hb6⟩)))
          have ML' : Cells7 w6 b0 (o0 + t * 7) (.int .i64 l.kind) (.int .i64 l.W.rows) (.int .i64 l.W.cols) (.slice a2 n2 k2) (.int .i64 l.B.rows) (.int .i64 l.B.cols) (.slice a3 n3 k3) := (by repeat (first | (with_reducible first | exact ML | refine Cells7.alloc ?_ _ | refine Cells7.drewN ?_ _ | refine Cells7.drew ?_ | (refine Cells7.far ?_ ?_ _; rotate_left 1; (first | (dsimp only; omega) | omega | (simp; omega) | simp)) | refine Cells7.keep ?_ hb6) | exact ML))
          have MV' : Cells6 w6 b1 (o1 + t * 6) (.int .i64 v.W.rows) (.int .i64 v.W.cols) (.slice a4 n4 k4) (.int .i64 v.B.rows) (.int .i64 v.B.cols) (.slice a5 n5 k5) := (by repeat (first | (with_reducible first | exact MV | refine Cells6.alloc ?_ _ | refine Cells6.drewN ?_ _ | refine Cells6.drew ?_ | (refine Cells6.far ?_ ?_ _; rotate_left 1; (first | (dsimp only; omega) | omega | (simp; omega) | simp)) | refine Cells6.keep ?_ hb6) | exact MV))
          have hS' : Box w6 w.heap.size [.slice (some ⟨b0, o0, none⟩) n1 k0, .slice (some ⟨b1, o1, none⟩) n1 k1, .int .i64 s.steps] 47 := (by first | exact hS.k1 hb6 | exact hS.k)
          clear ML MV hS
          go_wp2_with fail
          go_region_held3 (fun w' => w'.cell? ⟨w.heap.size, 0, none⟩ = some (.slice (some ⟨b0, o0, none⟩) n1 k0) ∧ w'.cell? ⟨w.heap.size, 1, none⟩ = some (.slice (some ⟨b1, o1, none⟩) n1 k1) ∧ w'.cell? ⟨b1, o1 + t * 6 + 3, none⟩ = some (.int .i64 v.B.rows) ∧ w'.cell? ⟨b1, o1 + t * 6 + 4, none⟩ = some (.int .i64 v.B.cols) ∧ w'.cell? ⟨b1, o1 + t * 6 + 5, none⟩ = some (.slice a5 n5 k5) ∧ w'.cell? ⟨b0, o0 + t * 7 + 4, none⟩ = some (.int .i64 l.B.rows) ∧ w'.cell? ⟨b0, o0 + t * 7 + 5, none⟩ = some (.int .i64 l.B.cols) ∧ w'.cell? ⟨b0, o0 + t * 7 + 6, none⟩ = some (.slice a3 n3 k3)) (exact cells_sb (show Box _ w.heap.size [.slice (some ⟨b0, o0, none⟩) n1 k0, .slice (some ⟨b1, o1, none⟩) n1 k1, .int .i64 s.steps] 47 from (by first | exact hS'.k1 hb7 | exact hS'.k)) (show Cells6 _ b1 (o1 + t * 6) (.int .i64 v.W.rows) (.int .i64 v.W.cols) (.slice a4 n4 k4) (.int .i64 v.B.rows) (.int .i64 v.B.cols) (.slice a5 n5 k5) from (by repeat (first | (with_reducible first | exact MV' | refine Cells6.alloc ?_ _ | refine Cells6.drewN ?_ _ | refine Cells6.drew ?_ | (refine Cells6.far ?_ ?_ _; rotate_left 1; (first | (dsimp only; omega) | omega | (simp; omega) | simp)) | refine Cells6.keep ?_ hb7) | exact MV'))) (show Cells7 _ b0 (o0 + t * 7) (.int .i64 l.kind) (.int .i64 l.W.rows) (.int .i64 l.W.cols) (.slice a2 n2 k2) (.int .i64 l.B.rows) (.int .i64 l.B.cols) (.slice a3 n3 k3) from (by repeat (first | (with_reducible first | exact ML' | refine Cells7.alloc ?_ _ | refine Cells7.drewN ?_ _ | refine Cells7.drew ?_ | (refine Cells7.far ?_ ?_ _; rotate_left 1; (first | (dsimp only; omega) | omega | (simp; omega) | simp)) | refine Cells7.keep ?_ hb7) | exact ML')))) ((go_at_call 45; go_must (refine (refShaped_any v.B l.B _ _ _ _ _ _ _).mono ?_); (try rw [HB.out]); go_must (rintro e w7 ⟨rfl, hb7⟩)))
          have hS : Box w7 w.heap.size [.slice (some ⟨b0, o0, none⟩) n1 k0, .slice (some ⟨b1, o1, none⟩) n1 k1, .int .i64 s.steps] 47 := (by first | exact hS'.k1 hb7 | exact hS'.k)
          have hbe : Below w.heap.size w w7 := (by repeat (first | (with_reducible first | exact Below.refl _ _ | exact hbr | refine Below.al ?_ _ | refine Below.drN ?_ _ | refine Below.drew ?_ | refine Below.sx ?_ _ | refine Below.go ?_ hb7 | refine Below.go ?_ hb6 | refine Below.go ?_ hb3 | refine Below.go ?_ hb2 | refine Below.go ?_ hb1) | exact Below.refl _ _ | exact hbr))
          clear ML' MV' hS'
          have HNZ : Hid ((2 : Int) ≠ 0) := Lib.hid (by decide)
          have HPT : Hid (stPart (lx s.N t) (gx s.V t) = if A = true ∧ B = true then 0 else 2) := Lib.hid (by
           rw [← HX.out.1, ← HX.out.2, ← HA.out, ← HB.out]
           unfold stPart
           rw [if_neg (by simp [HFL.out]), if_neg (by simp [HFW.out]), if_neg (by simp [HFB.out])]
           simp only [decide_eq_true_eq])
          cases A with
          | true =>
           cases B with
           | true =>
            have HNX : Hid (stTo s.N s.V (t + 1) = 0) := Lib.hid (by rw [stTo_next HT.out, HPT.out]; rfl)
            go_wp2
            go_roundw
            case rel => exact ⟨t + 1, by omega, by go_num, HNX, hS, hbe⟩
            case measure => simp [intOf]; omega
           | false =>
            have HR : Hid (s.fault = 2) := Lib.hid (by rw [HTO.out, stTo_stop hlt HT.out (by rw [HPT.out]; decide), HPT.out]; rfl)
            go_wp2
            go_ret
            exact ⟨by rw [HR.out]; rfl, hbe⟩
          | false =>
           have HR : Hid (s.fault = 2) := Lib.hid (by rw [HTO.out, stTo_stop hlt HT.out (by rw [HPT.out]; simp), HPT.out]; simp)
           go_wp2
           go_ret
           exact ⟨by rw [HR.out]; rfl, hbe⟩
         ·have HNZ := Lib.hid f3
          have q1 : (v.B.fault != 0) = true := by rw [bne_iff_ne]; exact f3
          clear f3
          go_wp2_with fail
          refine (refMatFault_any v.B _ _ (MatAt.mk (show IntsAt _ a5 n5 k5 b5 o5 v.B.cells from y2))).mono ?_
          rintro e w3 ⟨rfl, hb3⟩
          have hbe : Below w.heap.size w w3 := (by repeat (first | (with_reducible first | exact Below.refl _ _ | exact hbr | refine Below.al ?_ _ | refine Below.drN ?_ _ | refine Below.drew ?_ | refine Below.sx ?_ _ | refine Below.go ?_ hb3 | refine Below.go ?_ hb2 | refine Below.go ?_ hb1) | exact Below.refl _ _ | exact hbr))
          clear e0 e1 e2 S1 y2 ML MV hS
          -- v.B.fault: the fault, (by unfold stPart; rw [if_neg (by simp [HFL.out]), if_neg (by simp [HFW.out]), if_pos HNZ.out]): why, hbe: Below
          have HR : Hid (s.fault = v.B.fault) := Lib.hid (by
           have h1 : stPart (lx s.N t) (gx s.V t) = v.B.fault := by rw [← HX.out.1, ← HX.out.2]; exact (by unfold stPart; rw [if_neg (by simp [HFL.out]), if_neg (by simp [HFW.out]), if_pos HNZ.out])
           rw [HTO.out, stTo_stop hlt HT.out (by rw [h1]; exact HNZ.out), h1])
          go_wp2
          go_ret
          exact ⟨by rw [HR.out]; rfl, (Below.y0 hbe)⟩
        ·have HNZ := Lib.hid f2
         have q1 : (v.W.fault == 0) = false := by rw [beq_eq_false_iff_ne]; exact f2
         have q2 : (v.W.fault != 0) = true := by rw [bne_iff_ne]; exact f2
         clear f2
         go_wp2_with fail
         refine (refMatFault_any v.W _ _ (MatAt.mk (show IntsAt _ a4 n4 k4 b4 o4 v.W.cells from y1))).mono ?_
         rintro e w2 ⟨rfl, hb2⟩
         have hbe : Below w.heap.size w w2 := (by repeat (first | (with_reducible first | exact Below.refl _ _ | exact hbr | refine Below.al ?_ _ | refine Below.drN ?_ _ | refine Below.drew ?_ | refine Below.sx ?_ _ | refine Below.go ?_ hb2 | refine Below.go ?_ hb1) | exact Below.refl _ _ | exact hbr))
         clear e0 e1 e2 S1 y1 y2 ML MV hS
         -- v.W.fault: the fault, (by unfold stPart; rw [if_neg (by simp [HFL.out]), if_pos HNZ.out]): why, hbe: Below
         have HR : Hid (s.fault = v.W.fault) := Lib.hid (by
          have h1 : stPart (lx s.N t) (gx s.V t) = v.W.fault := by rw [← HX.out.1, ← HX.out.2]; exact (by unfold stPart; rw [if_neg (by simp [HFL.out]), if_pos HNZ.out])
          rw [HTO.out, stTo_stop hlt HT.out (by rw [h1]; exact HNZ.out), h1])
         go_wp2
         go_ret
         exact ⟨by rw [HR.out]; rfl, (Below.y0 hbe)⟩
       ·have HNZ := Lib.hid f1
        have q1 : (l.fault == 0) = false := by rw [beq_eq_false_iff_ne]; exact f1
        have q2 : (l.fault != 0) = true := by rw [bne_iff_ne]; exact f1
        clear f1
        go_wp2_with fail
        refine (refLayerFault_any l _ _ ⟨a2, n2, k2, b2, o2, a3, n3, k3, b3, o3, rfl, x1, x2⟩).mono ?_
        rintro e w1 ⟨rfl, hb1⟩
        have hbe : Below w.heap.size w w1 := (Below.y1 hb1 hbr)
        clear e0 e1 e2 e3 e4 e5 e6 S0 x1 x2 y1 y2 ML MV hS
        -- l.fault: the fault, (if_pos HNZ.out): why, hbe: Below
        have HR : Hid (s.fault = l.fault) := Lib.hid (by
         have h1 : stPart (lx s.N t) (gx s.V t) = l.fault := by rw [← HX.out.1, ← HX.out.2]; exact (if_pos HNZ.out)
         rw [HTO.out, stTo_stop hlt HT.out (by rw [h1]; exact HNZ.out), h1])
        go_wp2
        go_ret
        exact ⟨by rw [HR.out]; rfl, (Below.y0 hbe)⟩
      ·obtain rfl : t = n1 := by omega
       have HR : Hid (s.fault = 0) := Lib.hid (by rw [HTO.out, HT.out])
       have S0 := hS.cell 0
       go_wp2
       go_ret
       exact ⟨by rw [HR.out]; rfl, (Below.y0 hbr)⟩
  ·have HF : Hid (s.fault = 2) := Lib.hid (by unfold Sta.fault; rw [if_neg (by rw [HL0.out]; exact g1), if_pos (by rw [HL0.out, HL1.out]; exact g2)])
   have e2 : ((n1 : Int) != (n : Int)) = true := by rw [bne_iff_ne]; omega
   clear g1 g2
   rw [show s.fault = 2 from HF.out]
   go_enter Tryz.func15, Tryz.ntmps15
   go_wp2
   go_ret
   exact ⟨by rfl, Below.x0⟩
end Go.Proofs.YtgknjikjjklaiaaGreatDoor
end
