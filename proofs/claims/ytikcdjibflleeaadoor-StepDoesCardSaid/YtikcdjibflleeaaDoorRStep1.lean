/- Contracts of the reference: shaped, StepFault. -/
import Derived.Test.YtikcdjibflleeaaDoorStep5
import Derived.Test.YtikcdjibflleeaaDoorRLay1
import Derived.Test.YtikcdjibflleeaaDoorCell7
import Derived.Test.YtikcdjibflleeaaDoorRef1
set_option linter.unusedVariables false
set_option linter.unusedSimpArgs false
set_option linter.unusedSectionVars false
namespace Gal
open Go Go.RowKit
section
variable {w : World} {b i c j : Nat} {z0 z1 z2 z3 z4 z5 z6 x0 x1 x2 x3 x4 x5 : Value}
theorem cells_w3 (m : Cells6 w c j x0 x1 x2 x3 x4 x5) (l : Cells7 w b i z0 z1 z2 z3 z4 z5 z6) :
    w.cell? ⟨c, j, none⟩ = some x0 ∧ w.cell? ⟨c, j + 1, none⟩ = some x1 ∧ w.cell? ⟨c, j + 2, none⟩ = some x2 ∧ w.cell? ⟨b, i + 1, none⟩ = some z1 ∧ w.cell? ⟨b, i + 2, none⟩ = some z2 ∧ w.cell? ⟨b, i + 3, none⟩ = some z3 := ⟨m.c0, m.c1, m.c2, l.c1, l.c2, l.c3⟩
theorem cells_b3 (m : Cells6 w c j x0 x1 x2 x3 x4 x5) (l : Cells7 w b i z0 z1 z2 z3 z4 z5 z6) :
    w.cell? ⟨c, j + 3, none⟩ = some x3 ∧ w.cell? ⟨c, j + 4, none⟩ = some x4 ∧ w.cell? ⟨c, j + 5, none⟩ = some x5 ∧ w.cell? ⟨b, i + 4, none⟩ = some z4 ∧ w.cell? ⟨b, i + 5, none⟩ = some z5 ∧ w.cell? ⟨b, i + 6, none⟩ = some z6 := ⟨m.c3, m.c4, m.c5, l.c4, l.c5, l.c6⟩
end
theorem step_stop {ls : List Lay} {vs ds : List Grd} {t n : Nat} {f : Int} (h : stepFaultTo ls vs ds t = 0) (ht : t < n) (hf : fitsFault (lx ls t) (gx vs t) (gx ds t) = f) (hn : f ≠ 0) : stepFaultTo ls vs ds n = f := by
  have e : stepFaultTo ls vs ds (t + 1) = f := by rw [stepFaultTo_succ h, hf]
  rw [stepFaultTo_stop (show t + 1 ≤ n by omega) (by rw [e]; exact hn), e]
end Gal
namespace Go.Proofs.YtikcdjibflleeaaDoor
open Go.RowKit Gal
set_option maxRecDepth 100000
set_option maxHeartbeats 2000000
theorem refShaped_any (x y : Mat) (a0 a1 : Option Addr) (n0 n1 k0 k1 : Nat) (w : World) :
    Calls Tryd.prog 36 #[.agg #[.int .i64 x.rows, .int .i64 x.cols, .slice a0 n0 k0], .agg #[.int .i64 y.rows, .int .i64 y.cols, .slice a1 n1 k1]] w fun e w' => e = .returned (.bool (decide (likeShape x y))) ∧ Below w.heap.size w w' := by
  by_cases h1 : x.rows = y.rows
  · have g1 : (x.rows == y.rows) = true := by simp [h1]
    by_cases h2 : x.cols = y.cols
    · have g2 : (x.cols == y.cols) = true := by simp [h2]
      rw [decide_eq_true (show likeShape x y from ⟨h1, h2⟩)]
      clear h1 h2
      go_enter Tryd.func36, Tryd.ntmps36
      go_wp2
      go_ret
      exact ⟨rfl, (by repeat (first | fail | (with_reducible exact Below.refl _ _) | (with_reducible refine Below.al ?_ _) | (with_reducible refine Below.drN ?_ _) | (with_reducible refine Below.drew ?_) | (with_reducible refine Below.st ?_ ?_ _; rotate_left 1; (first | (dsimp only; omega) | omega | (simp; omega) | simp)) | exact Below.refl _ _))⟩
    · have g2 : (x.cols == y.cols) = false := by simp [h2]
      rw [decide_eq_false (fun h : likeShape x y => h2 h.2)]
      clear h1 h2
      go_enter Tryd.func36, Tryd.ntmps36
      go_wp2
      go_ret
      exact ⟨rfl, (by repeat (first | fail | (with_reducible exact Below.refl _ _) | (with_reducible refine Below.al ?_ _) | (with_reducible refine Below.drN ?_ _) | (with_reducible refine Below.drew ?_) | (with_reducible refine Below.st ?_ ?_ _; rotate_left 1; (first | (dsimp only; omega) | omega | (simp; omega) | simp)) | exact Below.refl _ _))⟩
  · have g1 : (x.rows == y.rows) = false := by simp [h1]
    rw [decide_eq_false (fun h : likeShape x y => h1 h.1)]
    clear h1
    go_enter Tryd.func36, Tryd.ntmps36
    go_wp2
    go_ret
    exact ⟨rfl, (by repeat (first | fail | (with_reducible exact Below.refl _ _) | (with_reducible refine Below.al ?_ _) | (with_reducible refine Below.drN ?_ _) | (with_reducible refine Below.drew ?_) | (with_reducible refine Below.st ?_ ?_ _; rotate_left 1; (first | (dsimp only; omega) | omega | (simp; omega) | simp)) | exact Below.refl _ _))⟩
section
variable (ls : List Lay) (vs ds : List Grd) (ln kp : Int) (F G H : Nat → Prop) (a0 a1 a2 : Option Addr) (n n1 n2 k0 k1 k2 b0 b1 b2 o0 o1 o2 : Nat) (w : World) (h0 : RowAt Form.lay w F a0 n k0 b0 o0 ls) (h1 : RowAt Form.grd w G a1 n1 k1 b1 o1 vs) (h2 : RowAt Form.grd w H a2 n2 k2 b2 o2 ds)
include h0 h1 h2
theorem refStepFault_range (hb : ln < 0 ∨ 256 < ln ∨ kp < 0 ∨ 256 < kp) :
    Calls Tryd.prog 20 #[.slice a0 n k0, .slice a1 n1 k1, .slice a2 n2 k2, .agg #[.int .i64 ln, .int .i64 kp]] w fun e w' => e = .returned (.int .i64 (stepFault ls vs ds ln kp)) ∧ Below w.heap.size w w'
  := by
  have hf : stepFault ls vs ds ln kp = 1 := by unfold stepFault; rw [if_pos hb]
  rw [hf]
  clear hf h0 h1 h2
  by_cases q1 : ln < 0
  · clear hb
    have g1 : decide (ln < 0) = true := by simp [q1]
    go_enter Tryd.func20, Tryd.ntmps20
    go_wp2
    go_ret
    exact ⟨rfl, (by repeat (first | fail | (with_reducible exact Below.refl _ _) | (with_reducible refine Below.al ?_ _) | (with_reducible refine Below.drN ?_ _) | (with_reducible refine Below.drew ?_) | (with_reducible refine Below.st ?_ ?_ _; rotate_left 1; (first | (dsimp only; omega) | omega | (simp; omega) | simp)) | exact Below.refl _ _))⟩
  · have g1 : decide (ln < 0) = false := by simp; omega
    by_cases q2 : 256 < ln
    · clear hb q1
      have g2 : decide (256 < ln) = true := by simp [q2]
      go_enter Tryd.func20, Tryd.ntmps20
      go_wp2
      go_ret
      exact ⟨rfl, (by repeat (first | fail | (with_reducible exact Below.refl _ _) | (with_reducible refine Below.al ?_ _) | (with_reducible refine Below.drN ?_ _) | (with_reducible refine Below.drew ?_) | (with_reducible refine Below.st ?_ ?_ _; rotate_left 1; (first | (dsimp only; omega) | omega | (simp; omega) | simp)) | exact Below.refl _ _))⟩
    · have g2 : decide (256 < ln) = false := by simp; omega
      by_cases q3 : kp < 0
      · clear hb q1 q2
        have g3 : decide (kp < 0) = true := by simp [q3]
        go_enter Tryd.func20, Tryd.ntmps20
        go_wp2
        go_ret
        exact ⟨rfl, (by repeat (first | fail | (with_reducible exact Below.refl _ _) | (with_reducible refine Below.al ?_ _) | (with_reducible refine Below.drN ?_ _) | (with_reducible refine Below.drew ?_) | (with_reducible refine Below.st ?_ ?_ _; rotate_left 1; (first | (dsimp only; omega) | omega | (simp; omega) | simp)) | exact Below.refl _ _))⟩
      · have g3 : decide (kp < 0) = false := by simp; omega
        have g4 : decide (256 < kp) = true := by simp; omega
        clear hb q1 q2 q3
        go_enter Tryd.func20, Tryd.ntmps20
        go_wp2
        go_ret
        exact ⟨rfl, (by repeat (first | fail | (with_reducible exact Below.refl _ _) | (with_reducible refine Below.al ?_ _) | (with_reducible refine Below.drN ?_ _) | (with_reducible refine Below.drew ?_) | (with_reducible refine Below.st ?_ ?_ _; rotate_left 1; (first | (dsimp only; omega) | omega | (simp; omega) | simp)) | exact Below.refl _ _))⟩
theorem refStepFault_sizes (hb : ¬ (ln < 0 ∨ 256 < ln ∨ kp < 0 ∨ 256 < kp)) (hs : 12 < n ∨ n1 ≠ n ∨ n2 ≠ n) :
    Calls Tryd.prog 20 #[.slice a0 n k0, .slice a1 n1 k1, .slice a2 n2 k2, .agg #[.int .i64 ln, .int .i64 kp]] w fun e w' => e = .returned (.int .i64 (stepFault ls vs ds ln kp)) ∧ Below w.heap.size w w'
  := by
  have hl0 := h0.len
  have hl1 := h1.len
  have hl2 := h2.len
  have hm0 := h0.max
  have hm1 := h1.max
  have hm2 := h2.max
  unfold maxLen at hm0 hm1 hm2
  have g1 : decide (ln < 0) = false := by simp; omega
  have g2 : decide (256 < ln) = false := by simp; omega
  have g3 : decide (kp < 0) = false := by simp; omega
  have g4 : decide (256 < kp) = false := by simp; omega
  by_cases q1 : 12 < n
  · have hf : stepFault ls vs ds ln kp = 3 := by unfold stepFault; rw [if_neg hb, if_pos (by omega)]
    rw [hf]
    clear hf h0 h1 h2 hb hl0 hl1 hl2 hs
    go_enter Tryd.func20, Tryd.ntmps20
    go_wp2
    go_ret
    exact ⟨rfl, (by repeat (first | fail | (with_reducible exact Below.refl _ _) | (with_reducible refine Below.al ?_ _) | (with_reducible refine Below.drN ?_ _) | (with_reducible refine Below.drew ?_) | (with_reducible refine Below.st ?_ ?_ _; rotate_left 1; (first | (dsimp only; omega) | omega | (simp; omega) | simp)) | exact Below.refl _ _))⟩
  · have hf : stepFault ls vs ds ln kp = 2 := by unfold stepFault; rw [if_neg hb, if_neg (by omega), if_pos (by omega)]
    rw [hf]
    clear hf h0 h1 h2 hb hl0 hl1 hl2
    by_cases q2 : n1 = n
    · have q3 : n2 ≠ n := by omega
      have g5 : ((n1 : Int) != (n : Int)) = false := by simp [q2]
      have g6 : ((n2 : Int) != (n : Int)) = true := by simp; omega
      clear hs q2 q3
      go_enter Tryd.func20, Tryd.ntmps20
      go_wp2
      go_ret
      exact ⟨rfl, (by repeat (first | fail | (with_reducible exact Below.refl _ _) | (with_reducible refine Below.al ?_ _) | (with_reducible refine Below.drN ?_ _) | (with_reducible refine Below.drew ?_) | (with_reducible refine Below.st ?_ ?_ _; rotate_left 1; (first | (dsimp only; omega) | omega | (simp; omega) | simp)) | exact Below.refl _ _))⟩
    · have g5 : ((n1 : Int) != (n : Int)) = true := by simp; omega
      clear hs q2
      go_enter Tryd.func20, Tryd.ntmps20
      go_wp2
      go_ret
      exact ⟨rfl, (by repeat (first | fail | (with_reducible exact Below.refl _ _) | (with_reducible refine Below.al ?_ _) | (with_reducible refine Below.drN ?_ _) | (with_reducible refine Below.drew ?_) | (with_reducible refine Below.st ?_ ?_ _; rotate_left 1; (first | (dsimp only; omega) | omega | (simp; omega) | simp)) | exact Below.refl _ _))⟩
end
theorem refStepFault_run (ls : List Lay) (vs ds : List Grd) (ln kp : Int) (F G H : Nat → Prop) (a0 a1 a2 : Option Addr) (n k0 k1 k2 b0 b1 b2 o0 o1 o2 : Nat) (w : World) (h0 : RowAt Form.lay w F a0 n k0 b0 o0 ls) (h1 : RowAt Form.grd w G a1 n k1 b1 o1 vs) (h2 : RowAt Form.grd w H a2 n k2 b2 o2 ds)
    (hb : ¬ (ln < 0 ∨ 256 < ln ∨ kp < 0 ∨ 256 < kp)) (h12 : n ≤ 12) :
    Calls Tryd.prog 20 #[.slice a0 n k0, .slice a1 n k1, .slice a2 n k2, .agg #[.int .i64 ln, .int .i64 kp]] w fun e w' => e = .returned (.int .i64 (stepFault ls vs ds ln kp)) ∧ Below w.heap.size w w' := by
  have HF : Hid (stepFault ls vs ds ln kp = stepFaultTo ls vs ds n) := Lib.hid (by have e0 := h0.len; have e1 := h1.len; have e2 := h2.len; rw [stepFault_is hb (by omega) (by omega), e0])
  have HL0 := Lib.hid h0.len
  have HL1 := Lib.hid h1.len
  have HL2 := Lib.hid h2.len
  have g1 : decide (ln < 0) = false := by simp; omega
  have g2 : decide (256 < ln) = false := by simp; omega
  have g3 : decide (kp < 0) = false := by simp; omega
  have g4 : decide (256 < kp) = false := by simp; omega
  have g5 : ((n : Int) != (n : Int)) = false := by simp
  have g6 : decide (12 < n) = false := by simp; omega
  have g7 : ¬ (12 < (n : Int)) := by omega
  clear hb
  go_enter Tryd.func20, Tryd.ntmps20
  go_wp2_with fail
  go_loopw [9] (fun i wr => ∃ t : Nat, t ≤ n ∧ i = .int .i64 t ∧ Hid (stepFaultTo ls vs ds t = 0) ∧ Below w.heap.size w wr) (fun i _ => n - (intOf i).toNat)
  case atStart => exact ⟨0, Nat.zero_le _, rfl, Lib.hid rfl, (by repeat (first | fail | (with_reducible exact Below.refl _ _) | (with_reducible refine Below.al ?_ _) | (with_reducible refine Below.drN ?_ _) | (with_reducible refine Below.drew ?_) | (with_reducible refine Below.st ?_ ?_ _; rotate_left 1; (first | (dsimp only; omega) | omega | (simp; omega) | simp)) | exact Below.refl _ _))⟩
  case round =>
    obtain ⟨t, ht, rfl, HT, hbr⟩ := hrel
    by_cases hlt : t < n
    · have hltI : (t : Int) < (n : Int) := by omega
      obtain rfl := h0.ptr (by omega)
      obtain rfl := h1.ptr (by omega)
      obtain rfl := h2.ptr (by omega)
      obtain ⟨a3, n3, k3, b3, o3, a4, n4, k4, b4, o4, cK, c0, c1, c2, c3, c4, c5, x3, x4⟩ := lay_cells (h0.keep hbr) hlt
      obtain ⟨a5, n5, k5, b5, o5, a6, n6, k6, b6, o6, e0, e1, e2, e3, e4, e5, x5, x6⟩ := grd_cells (h1.keep hbr) (gx_get (by rw [HL1.out]; exact hlt))
      obtain ⟨a7, n7, k7, b7, o7, a8, n8, k8, b8, o8, f0, f1, f2, f3, f4, f5, x7, x8⟩ := grd_cells (h2.keep hbr) (gx_get (by rw [HL2.out]; exact hlt))
      obtain ⟨l, hl⟩ : ∃ l, l = lx ls t := ⟨_, rfl⟩
      obtain ⟨v, hv⟩ : ∃ v, v = gx vs t := ⟨_, rfl⟩
      obtain ⟨d, hd⟩ : ∃ d, d = gx ds t := ⟨_, rfl⟩
      rw [← hl] at cK c0 c1 c3 c4 x3 x4
      rw [← hv] at e0 e1 e3 e4 x5 x6
      rw [← hd] at f0 f1 f3 f4 x7 x8
      have HX : Hid (l = lx ls t ∧ v = gx vs t ∧ d = gx ds t) := Lib.hid ⟨hl, hv, hd⟩
      have ML : Cells7 wr b0 (o0 + t * 7) (.int .i64 l.kind) (.int .i64 l.W.rows) (.int .i64 l.W.cols) (.slice a3 n3 k3) (.int .i64 l.B.rows) (.int .i64 l.B.cols) (.slice a4 n4 k4) := ⟨cK, c0, c1, c2, c3, c4, c5⟩
      have MV : Cells6 wr b1 (o1 + t * 6) (.int .i64 v.W.rows) (.int .i64 v.W.cols) (.slice a5 n5 k5) (.int .i64 v.B.rows) (.int .i64 v.B.cols) (.slice a6 n6 k6) := ⟨e0, e1, e2, e3, e4, e5⟩
      have MD : Cells6 wr b2 (o2 + t * 6) (.int .i64 d.W.rows) (.int .i64 d.W.cols) (.slice a7 n7 k7) (.int .i64 d.B.rows) (.int .i64 d.B.cols) (.slice a8 n8 k8) := ⟨f0, f1, f2, f3, f4, f5⟩
      clear hl hv hd cK c0 c1 c2 c3 c4 c5 e0 e1 e2 e3 e4 e5 f0 f1 f2 f3 f4 f5
      by_cases f0 : l.fault = 0
      · have H0 := Lib.hid f0
        clear f0
        by_cases f1 : v.W.fault = 0
        · have H1 := Lib.hid f1
          clear f1
          by_cases f2 : v.B.fault = 0
          · have H2 := Lib.hid f2
            clear f2
            by_cases f3 : d.W.fault = 0
            · have H3 := Lib.hid f3
              clear f3
              by_cases f4 : d.B.fault = 0
              · have H4 := Lib.hid f4
                clear f4
                by_cases s0 : likeShape v.W l.W
                · have K0 : Hid (decide (likeShape v.W l.W) = true) := Lib.hid (decide_eq_true s0)
                  clear s0
                  by_cases s1 : likeShape v.B l.B
                  · have K1 : Hid (decide (likeShape v.B l.B) = true) := Lib.hid (decide_eq_true s1)
                    clear s1
                    by_cases s2 : likeShape d.W l.W
                    · have K2 : Hid (decide (likeShape d.W l.W) = true) := Lib.hid (decide_eq_true s2)
                      clear s2
                      by_cases s3 : likeShape d.B l.B
                      · have K3 : Hid (decide (likeShape d.B l.B) = true) := Lib.hid (decide_eq_true s3)
                        clear s3
                        have HFI : Hid (fitsFault l v d = 0) := Lib.hid (fits_mk H0.out H1.out H2.out H3.out H4.out (of_decide_eq_true K0.out) (of_decide_eq_true K1.out) (of_decide_eq_true K2.out) (of_decide_eq_true K3.out))
                        have e0 := ML.c0
                        have e1 := ML.c1
                        have e2 := ML.c2
                        have e3 := ML.c3
                        have e4 := ML.c4
                        have e5 := ML.c5
                        have e6 := ML.c6
                        go_wp2_with fail
                        refine (refLayerFault_any l _ _ ⟨a3, n3, k3, b3, o3, a4, n4, k4, b4, o4, rfl, x3, x4⟩).mono ?_
                        rw [H0.out]
                        rintro e w1 ⟨rfl, hb1⟩
                        clear e0 e1 e2 e3 e4 e5 e6
                        replace ML := ML.keep hb1
                        replace MV := MV.keep hb1
                        replace MD := MD.keep hb1
                        replace x3 := x3.keep hb1
                        replace x4 := x4.keep hb1
                        replace x5 := x5.keep hb1
                        replace x6 := x6.keep hb1
                        replace x7 := x7.keep hb1
                        replace x8 := x8.keep hb1
                        have e0 := MV.c0
                        have e1 := MV.c1
                        have e2 := MV.c2
                        go_wp2_with fail
                        refine (refMatFault_any v.W _ _ (MatAt.mk (show IntsAt _ a5 n5 k5 b5 o5 v.W.cells from x5))).mono ?_
                        rw [H1.out]
                        rintro e w2 ⟨rfl, hb2⟩
                        clear e0 e1 e2
                        replace ML := ML.keep hb2
                        replace MV := MV.keep hb2
                        replace MD := MD.keep hb2
                        replace x3 := x3.keep hb2
                        replace x4 := x4.keep hb2
                        replace x5 := x5.keep hb2
                        replace x6 := x6.keep hb2
                        replace x7 := x7.keep hb2
                        replace x8 := x8.keep hb2
                        have e0 := MV.c3
                        have e1 := MV.c4
                        have e2 := MV.c5
                        go_wp2_with fail
                        refine (refMatFault_any v.B _ _ (MatAt.mk (show IntsAt _ a6 n6 k6 b6 o6 v.B.cells from x6))).mono ?_
                        rw [H2.out]
                        rintro e w3 ⟨rfl, hb3⟩
                        clear e0 e1 e2
                        replace ML := ML.keep hb3
                        replace MV := MV.keep hb3
                        replace MD := MD.keep hb3
                        replace x3 := x3.keep hb3
                        replace x4 := x4.keep hb3
                        replace x5 := x5.keep hb3
                        replace x6 := x6.keep hb3
                        replace x7 := x7.keep hb3
                        replace x8 := x8.keep hb3
                        have e0 := MD.c0
                        have e1 := MD.c1
                        have e2 := MD.c2
                        go_wp2_with fail
                        refine (refMatFault_any d.W _ _ (MatAt.mk (show IntsAt _ a7 n7 k7 b7 o7 d.W.cells from x7))).mono ?_
                        rw [H3.out]
                        rintro e w4 ⟨rfl, hb4⟩
                        clear e0 e1 e2
                        replace ML := ML.keep hb4
                        replace MV := MV.keep hb4
                        replace MD := MD.keep hb4
                        replace x3 := x3.keep hb4
                        replace x4 := x4.keep hb4
                        replace x5 := x5.keep hb4
                        replace x6 := x6.keep hb4
                        replace x7 := x7.keep hb4
                        replace x8 := x8.keep hb4
                        have e0 := MD.c3
                        have e1 := MD.c4
                        have e2 := MD.c5
                        go_wp2_with fail
                        refine (refMatFault_any d.B _ _ (MatAt.mk (show IntsAt _ a8 n8 k8 b8 o8 d.B.cells from x8))).mono ?_
                        rw [H4.out]
                        rintro e w5 ⟨rfl, hb5⟩
                        clear e0 e1 e2
                        replace ML := ML.keep hb5
                        replace MV := MV.keep hb5
                        replace MD := MD.keep hb5
                        replace x3 := x3.keep hb5
                        replace x4 := x4.keep hb5
                        replace x5 := x5.keep hb5
                        replace x6 := x6.keep hb5
                        replace x7 := x7.keep hb5
                        replace x8 := x8.keep hb5
                        go_wp2_with fail
                        go_region_held3 (fun w' => w'.cell? ⟨b1, o1 + t * 6, none⟩ = some (.int .i64 v.W.rows) ∧ w'.cell? ⟨b1, o1 + t * 6 + 1, none⟩ = some (.int .i64 v.W.cols) ∧ w'.cell? ⟨b1, o1 + t * 6 + 2, none⟩ = some (.slice a5 n5 k5) ∧ w'.cell? ⟨b0, o0 + t * 7 + 1, none⟩ = some (.int .i64 l.W.rows) ∧ w'.cell? ⟨b0, o0 + t * 7 + 2, none⟩ = some (.int .i64 l.W.cols) ∧ w'.cell? ⟨b0, o0 + t * 7 + 3, none⟩ = some (.slice a3 n3 k3)) (exact cells_w3 (show Cells6 _ b1 (o1 + t * 6) (.int .i64 v.W.rows) (.int .i64 v.W.cols) (.slice a5 n5 k5) (.int .i64 v.B.rows) (.int .i64 v.B.cols) (.slice a6 n6 k6) from (by repeat (first | fail | (with_reducible exact MV) | (with_reducible refine Cells6.alloc ?_ _) | (with_reducible refine Cells6.drewN ?_ _) | (with_reducible refine Cells6.drew ?_) | (with_reducible refine Cells6.far ?_ ?_ _; rotate_left 1; (first | (dsimp only; omega) | omega | (simp; omega) | simp)) | (with_reducible refine Cells6.keep ?_ hb6) | exact MV))) (show Cells7 _ b0 (o0 + t * 7) (.int .i64 l.kind) (.int .i64 l.W.rows) (.int .i64 l.W.cols) (.slice a3 n3 k3) (.int .i64 l.B.rows) (.int .i64 l.B.cols) (.slice a4 n4 k4) from (by repeat (first | fail | (with_reducible exact ML) | (with_reducible refine Cells7.alloc ?_ _) | (with_reducible refine Cells7.drewN ?_ _) | (with_reducible refine Cells7.drew ?_) | (with_reducible refine Cells7.far ?_ ?_ _; rotate_left 1; (first | (dsimp only; omega) | omega | (simp; omega) | simp)) | (with_reducible refine Cells7.keep ?_ hb6) | exact ML)))) ((go_at_call 36; go_must (refine (refShaped_any v.W l.W _ _ _ _ _ _ _).mono ?_); (try rw [K0.out]); go_must (rintro e w6 ⟨rfl, hb6⟩)))
                        have ML' : Cells7 w6 b0 (o0 + t * 7) (.int .i64 l.kind) (.int .i64 l.W.rows) (.int .i64 l.W.cols) (.slice a3 n3 k3) (.int .i64 l.B.rows) (.int .i64 l.B.cols) (.slice a4 n4 k4) := (by repeat (first | fail | (with_reducible exact ML) | (with_reducible refine Cells7.alloc ?_ _) | (with_reducible refine Cells7.drewN ?_ _) | (with_reducible refine Cells7.drew ?_) | (with_reducible refine Cells7.far ?_ ?_ _; rotate_left 1; (first | (dsimp only; omega) | omega | (simp; omega) | simp)) | (with_reducible refine Cells7.keep ?_ hb6) | exact ML))
                        have MV' : Cells6 w6 b1 (o1 + t * 6) (.int .i64 v.W.rows) (.int .i64 v.W.cols) (.slice a5 n5 k5) (.int .i64 v.B.rows) (.int .i64 v.B.cols) (.slice a6 n6 k6) := (by repeat (first | fail | (with_reducible exact MV) | (with_reducible refine Cells6.alloc ?_ _) | (with_reducible refine Cells6.drewN ?_ _) | (with_reducible refine Cells6.drew ?_) | (with_reducible refine Cells6.far ?_ ?_ _; rotate_left 1; (first | (dsimp only; omega) | omega | (simp; omega) | simp)) | (with_reducible refine Cells6.keep ?_ hb6) | exact MV))
                        have MD' : Cells6 w6 b2 (o2 + t * 6) (.int .i64 d.W.rows) (.int .i64 d.W.cols) (.slice a7 n7 k7) (.int .i64 d.B.rows) (.int .i64 d.B.cols) (.slice a8 n8 k8) := (by repeat (first | fail | (with_reducible exact MD) | (with_reducible refine Cells6.alloc ?_ _) | (with_reducible refine Cells6.drewN ?_ _) | (with_reducible refine Cells6.drew ?_) | (with_reducible refine Cells6.far ?_ ?_ _; rotate_left 1; (first | (dsimp only; omega) | omega | (simp; omega) | simp)) | (with_reducible refine Cells6.keep ?_ hb6) | exact MD))
                        clear ML MV MD
                        have ML := ML'
                        have MV := MV'
                        have MD := MD'
                        clear ML' MV' MD'
                        go_wp2_with fail
                        go_region_held3 (fun w' => w'.cell? ⟨b1, o1 + t * 6 + 3, none⟩ = some (.int .i64 v.B.rows) ∧ w'.cell? ⟨b1, o1 + t * 6 + 4, none⟩ = some (.int .i64 v.B.cols) ∧ w'.cell? ⟨b1, o1 + t * 6 + 5, none⟩ = some (.slice a6 n6 k6) ∧ w'.cell? ⟨b0, o0 + t * 7 + 4, none⟩ = some (.int .i64 l.B.rows) ∧ w'.cell? ⟨b0, o0 + t * 7 + 5, none⟩ = some (.int .i64 l.B.cols) ∧ w'.cell? ⟨b0, o0 + t * 7 + 6, none⟩ = some (.slice a4 n4 k4)) (exact cells_b3 (show Cells6 _ b1 (o1 + t * 6) (.int .i64 v.W.rows) (.int .i64 v.W.cols) (.slice a5 n5 k5) (.int .i64 v.B.rows) (.int .i64 v.B.cols) (.slice a6 n6 k6) from (by repeat (first | fail | (with_reducible exact MV) | (with_reducible refine Cells6.alloc ?_ _) | (with_reducible refine Cells6.drewN ?_ _) | (with_reducible refine Cells6.drew ?_) | (with_reducible refine Cells6.far ?_ ?_ _; rotate_left 1; (first | (dsimp only; omega) | omega | (simp; omega) | simp)) | (with_reducible refine Cells6.keep ?_ hb7) | exact MV))) (show Cells7 _ b0 (o0 + t * 7) (.int .i64 l.kind) (.int .i64 l.W.rows) (.int .i64 l.W.cols) (.slice a3 n3 k3) (.int .i64 l.B.rows) (.int .i64 l.B.cols) (.slice a4 n4 k4) from (by repeat (first | fail | (with_reducible exact ML) | (with_reducible refine Cells7.alloc ?_ _) | (with_reducible refine Cells7.drewN ?_ _) | (with_reducible refine Cells7.drew ?_) | (with_reducible refine Cells7.far ?_ ?_ _; rotate_left 1; (first | (dsimp only; omega) | omega | (simp; omega) | simp)) | (with_reducible refine Cells7.keep ?_ hb7) | exact ML)))) ((go_at_call 36; go_must (refine (refShaped_any v.B l.B _ _ _ _ _ _ _).mono ?_); (try rw [K1.out]); go_must (rintro e w7 ⟨rfl, hb7⟩)))
                        have ML' : Cells7 w7 b0 (o0 + t * 7) (.int .i64 l.kind) (.int .i64 l.W.rows) (.int .i64 l.W.cols) (.slice a3 n3 k3) (.int .i64 l.B.rows) (.int .i64 l.B.cols) (.slice a4 n4 k4) := (by repeat (first | fail | (with_reducible exact ML) | (with_reducible refine Cells7.alloc ?_ _) | (with_reducible refine Cells7.drewN ?_ _) | (with_reducible refine Cells7.drew ?_) | (with_reducible refine Cells7.far ?_ ?_ _; rotate_left 1; (first | (dsimp only; omega) | omega | (simp; omega) | simp)) | (with_reducible refine Cells7.keep ?_ hb7) | exact ML))
                        have MV' : Cells6 w7 b1 (o1 + t * 6) (.int .i64 v.W.rows) (.int .i64 v.W.cols) (.slice a5 n5 k5) (.int .i64 v.B.rows) (.int .i64 v.B.cols) (.slice a6 n6 k6) := (by repeat (first | fail | (with_reducible exact MV) | (with_reducible refine Cells6.alloc ?_ _) | (with_reducible refine Cells6.drewN ?_ _) | (with_reducible refine Cells6.drew ?_) | (with_reducible refine Cells6.far ?_ ?_ _; rotate_left 1; (first | (dsimp only; omega) | omega | (simp; omega) | simp)) | (with_reducible refine Cells6.keep ?_ hb7) | exact MV))
                        have MD' : Cells6 w7 b2 (o2 + t * 6) (.int .i64 d.W.rows) (.int .i64 d.W.cols) (.slice a7 n7 k7) (.int .i64 d.B.rows) (.int .i64 d.B.cols) (.slice a8 n8 k8) := (by repeat (first | fail | (with_reducible exact MD) | (with_reducible refine Cells6.alloc ?_ _) | (with_reducible refine Cells6.drewN ?_ _) | (with_reducible refine Cells6.drew ?_) | (with_reducible refine Cells6.far ?_ ?_ _; rotate_left 1; (first | (dsimp only; omega) | omega | (simp; omega) | simp)) | (with_reducible refine Cells6.keep ?_ hb7) | exact MD))
                        clear ML MV MD
                        have ML := ML'
                        have MV := MV'
                        have MD := MD'
                        clear ML' MV' MD'
                        go_wp2_with fail
                        go_region_held3 (fun w' => w'.cell? ⟨b2, o2 + t * 6, none⟩ = some (.int .i64 d.W.rows) ∧ w'.cell? ⟨b2, o2 + t * 6 + 1, none⟩ = some (.int .i64 d.W.cols) ∧ w'.cell? ⟨b2, o2 + t * 6 + 2, none⟩ = some (.slice a7 n7 k7) ∧ w'.cell? ⟨b0, o0 + t * 7 + 1, none⟩ = some (.int .i64 l.W.rows) ∧ w'.cell? ⟨b0, o0 + t * 7 + 2, none⟩ = some (.int .i64 l.W.cols) ∧ w'.cell? ⟨b0, o0 + t * 7 + 3, none⟩ = some (.slice a3 n3 k3)) (exact cells_w3 (show Cells6 _ b2 (o2 + t * 6) (.int .i64 d.W.rows) (.int .i64 d.W.cols) (.slice a7 n7 k7) (.int .i64 d.B.rows) (.int .i64 d.B.cols) (.slice a8 n8 k8) from (by repeat (first | fail | (with_reducible exact MD) | (with_reducible refine Cells6.alloc ?_ _) | (with_reducible refine Cells6.drewN ?_ _) | (with_reducible refine Cells6.drew ?_) | (with_reducible refine Cells6.far ?_ ?_ _; rotate_left 1; (first | (dsimp only; omega) | omega | (simp; omega) | simp)) | (with_reducible refine Cells6.keep ?_ hb8) | exact MD))) (show Cells7 _ b0 (o0 + t * 7) (.int .i64 l.kind) (.int .i64 l.W.rows) (.int .i64 l.W.cols) (.slice a3 n3 k3) (.int .i64 l.B.rows) (.int .i64 l.B.cols) (.slice a4 n4 k4) from (by repeat (first | fail | (with_reducible exact ML) | (with_reducible refine Cells7.alloc ?_ _) | (with_reducible refine Cells7.drewN ?_ _) | (with_reducible refine Cells7.drew ?_) | (with_reducible refine Cells7.far ?_ ?_ _; rotate_left 1; (first | (dsimp only; omega) | omega | (simp; omega) | simp)) | (with_reducible refine Cells7.keep ?_ hb8) | exact ML)))) ((go_at_call 36; go_must (refine (refShaped_any d.W l.W _ _ _ _ _ _ _).mono ?_); (try rw [K2.out]); go_must (rintro e w8 ⟨rfl, hb8⟩)))
                        have ML' : Cells7 w8 b0 (o0 + t * 7) (.int .i64 l.kind) (.int .i64 l.W.rows) (.int .i64 l.W.cols) (.slice a3 n3 k3) (.int .i64 l.B.rows) (.int .i64 l.B.cols) (.slice a4 n4 k4) := (by repeat (first | fail | (with_reducible exact ML) | (with_reducible refine Cells7.alloc ?_ _) | (with_reducible refine Cells7.drewN ?_ _) | (with_reducible refine Cells7.drew ?_) | (with_reducible refine Cells7.far ?_ ?_ _; rotate_left 1; (first | (dsimp only; omega) | omega | (simp; omega) | simp)) | (with_reducible refine Cells7.keep ?_ hb8) | exact ML))
                        have MV' : Cells6 w8 b1 (o1 + t * 6) (.int .i64 v.W.rows) (.int .i64 v.W.cols) (.slice a5 n5 k5) (.int .i64 v.B.rows) (.int .i64 v.B.cols) (.slice a6 n6 k6) := (by repeat (first | fail | (with_reducible exact MV) | (with_reducible refine Cells6.alloc ?_ _) | (with_reducible refine Cells6.drewN ?_ _) | (with_reducible refine Cells6.drew ?_) | (with_reducible refine Cells6.far ?_ ?_ _; rotate_left 1; (first | (dsimp only; omega) | omega | (simp; omega) | simp)) | (with_reducible refine Cells6.keep ?_ hb8) | exact MV))
                        have MD' : Cells6 w8 b2 (o2 + t * 6) (.int .i64 d.W.rows) (.int .i64 d.W.cols) (.slice a7 n7 k7) (.int .i64 d.B.rows) (.int .i64 d.B.cols) (.slice a8 n8 k8) := (by repeat (first | fail | (with_reducible exact MD) | (with_reducible refine Cells6.alloc ?_ _) | (with_reducible refine Cells6.drewN ?_ _) | (with_reducible refine Cells6.drew ?_) | (with_reducible refine Cells6.far ?_ ?_ _; rotate_left 1; (first | (dsimp only; omega) | omega | (simp; omega) | simp)) | (with_reducible refine Cells6.keep ?_ hb8) | exact MD))
                        clear ML MV MD
                        have ML := ML'
                        have MV := MV'
                        have MD := MD'
                        clear ML' MV' MD'
                        go_wp2_with fail
                        go_region_held3 (fun w' => w'.cell? ⟨b2, o2 + t * 6 + 3, none⟩ = some (.int .i64 d.B.rows) ∧ w'.cell? ⟨b2, o2 + t * 6 + 4, none⟩ = some (.int .i64 d.B.cols) ∧ w'.cell? ⟨b2, o2 + t * 6 + 5, none⟩ = some (.slice a8 n8 k8) ∧ w'.cell? ⟨b0, o0 + t * 7 + 4, none⟩ = some (.int .i64 l.B.rows) ∧ w'.cell? ⟨b0, o0 + t * 7 + 5, none⟩ = some (.int .i64 l.B.cols) ∧ w'.cell? ⟨b0, o0 + t * 7 + 6, none⟩ = some (.slice a4 n4 k4)) (exact cells_b3 (show Cells6 _ b2 (o2 + t * 6) (.int .i64 d.W.rows) (.int .i64 d.W.cols) (.slice a7 n7 k7) (.int .i64 d.B.rows) (.int .i64 d.B.cols) (.slice a8 n8 k8) from (by repeat (first | fail | (with_reducible exact MD) | (with_reducible refine Cells6.alloc ?_ _) | (with_reducible refine Cells6.drewN ?_ _) | (with_reducible refine Cells6.drew ?_) | (with_reducible refine Cells6.far ?_ ?_ _; rotate_left 1; (first | (dsimp only; omega) | omega | (simp; omega) | simp)) | (with_reducible refine Cells6.keep ?_ hb9) | exact MD))) (show Cells7 _ b0 (o0 + t * 7) (.int .i64 l.kind) (.int .i64 l.W.rows) (.int .i64 l.W.cols) (.slice a3 n3 k3) (.int .i64 l.B.rows) (.int .i64 l.B.cols) (.slice a4 n4 k4) from (by repeat (first | fail | (with_reducible exact ML) | (with_reducible refine Cells7.alloc ?_ _) | (with_reducible refine Cells7.drewN ?_ _) | (with_reducible refine Cells7.drew ?_) | (with_reducible refine Cells7.far ?_ ?_ _; rotate_left 1; (first | (dsimp only; omega) | omega | (simp; omega) | simp)) | (with_reducible refine Cells7.keep ?_ hb9) | exact ML)))) ((go_at_call 36; go_must (refine (refShaped_any d.B l.B _ _ _ _ _ _ _).mono ?_); (try rw [K3.out]); go_must (rintro e w9 ⟨rfl, hb9⟩)))
                        have hbe : Below w.heap.size w w9 := (by repeat (first | fail | (with_reducible exact Below.refl _ _) | (with_reducible exact hbr) | (with_reducible refine Below.al ?_ _) | (with_reducible refine Below.drN ?_ _) | (with_reducible refine Below.drew ?_) | (with_reducible refine Below.st ?_ ?_ _; rotate_left 1; (first | (dsimp only; omega) | omega | (simp; omega) | simp)) | (with_reducible refine Below.go ?_ hb9) | (with_reducible refine Below.go ?_ hb8) | (with_reducible refine Below.go ?_ hb7) | (with_reducible refine Below.go ?_ hb6) | (with_reducible refine Below.go ?_ hb5) | (with_reducible refine Below.go ?_ hb4) | (with_reducible refine Below.go ?_ hb3) | (with_reducible refine Below.go ?_ hb2) | (with_reducible refine Below.go ?_ hb1) | exact Below.refl _ _ | exact hbr))
                        clear ML MV MD x3 x4 x5 x6 x7 x8
                        go_wp2
                        go_roundw
                        case rel => exact ⟨t + 1, by omega, by go_num, Lib.hid (by rw [stepFaultTo_succ HT.out, ← HX.out.1, ← HX.out.2.1, ← HX.out.2.2]; exact HFI.out), (by repeat (first | fail | (with_reducible exact Below.refl _ _) | (with_reducible exact hbe) | (with_reducible refine Below.al ?_ _) | (with_reducible refine Below.drN ?_ _) | (with_reducible refine Below.drew ?_) | (with_reducible refine Below.st ?_ ?_ _; rotate_left 1; (first | (dsimp only; omega) | omega | (simp; omega) | simp)) | exact Below.refl _ _ | exact hbe))⟩
                        case measure => simp [intOf]; omega
                      · have K3 : Hid (decide (likeShape d.B l.B) = false) := Lib.hid (decide_eq_false s3)
                        have HFI : Hid (fitsFault l v d = 2) := Lib.hid (by unfold fitsFault; rw [if_neg (by simp [H0.out]), if_neg (by simp [H1.out]), if_neg (by simp [H2.out]), if_neg (by simp [H3.out]), if_neg (by simp [H4.out]), if_neg (by rintro ⟨q0, q1, q2, q3⟩; exact s3 q3)])
                        have HST : Hid (stepFault ls vs ds ln kp = 2) := Lib.hid (by rw [HF.out, step_stop (f := 2) HT.out hlt (by rw [← HX.out.1, ← HX.out.2.1, ← HX.out.2.2]; exact HFI.out) (by decide)])
                        clear s3
                        have e0 := ML.c0
                        have e1 := ML.c1
                        have e2 := ML.c2
                        have e3 := ML.c3
                        have e4 := ML.c4
                        have e5 := ML.c5
                        have e6 := ML.c6
                        go_wp2_with fail
                        refine (refLayerFault_any l _ _ ⟨a3, n3, k3, b3, o3, a4, n4, k4, b4, o4, rfl, x3, x4⟩).mono ?_
                        rw [H0.out]
                        rintro e w1 ⟨rfl, hb1⟩
                        clear e0 e1 e2 e3 e4 e5 e6
                        replace ML := ML.keep hb1
                        replace MV := MV.keep hb1
                        replace MD := MD.keep hb1
                        replace x3 := x3.keep hb1
                        replace x4 := x4.keep hb1
                        replace x5 := x5.keep hb1
                        replace x6 := x6.keep hb1
                        replace x7 := x7.keep hb1
                        replace x8 := x8.keep hb1
                        have e0 := MV.c0
                        have e1 := MV.c1
                        have e2 := MV.c2
                        go_wp2_with fail
                        refine (refMatFault_any v.W _ _ (MatAt.mk (show IntsAt _ a5 n5 k5 b5 o5 v.W.cells from x5))).mono ?_
                        rw [H1.out]
                        rintro e w2 ⟨rfl, hb2⟩
                        clear e0 e1 e2
                        replace ML := ML.keep hb2
                        replace MV := MV.keep hb2
                        replace MD := MD.keep hb2
                        replace x3 := x3.keep hb2
                        replace x4 := x4.keep hb2
                        replace x5 := x5.keep hb2
                        replace x6 := x6.keep hb2
                        replace x7 := x7.keep hb2
                        replace x8 := x8.keep hb2
                        have e0 := MV.c3
                        have e1 := MV.c4
                        have e2 := MV.c5
                        go_wp2_with fail
                        refine (refMatFault_any v.B _ _ (MatAt.mk (show IntsAt _ a6 n6 k6 b6 o6 v.B.cells from x6))).mono ?_
                        rw [H2.out]
                        rintro e w3 ⟨rfl, hb3⟩
                        clear e0 e1 e2
                        replace ML := ML.keep hb3
                        replace MV := MV.keep hb3
                        replace MD := MD.keep hb3
                        replace x3 := x3.keep hb3
                        replace x4 := x4.keep hb3
                        replace x5 := x5.keep hb3
                        replace x6 := x6.keep hb3
                        replace x7 := x7.keep hb3
                        replace x8 := x8.keep hb3
                        have e0 := MD.c0
                        have e1 := MD.c1
                        have e2 := MD.c2
                        go_wp2_with fail
                        refine (refMatFault_any d.W _ _ (MatAt.mk (show IntsAt _ a7 n7 k7 b7 o7 d.W.cells from x7))).mono ?_
                        rw [H3.out]
                        rintro e w4 ⟨rfl, hb4⟩
                        clear e0 e1 e2
                        replace ML := ML.keep hb4
                        replace MV := MV.keep hb4
                        replace MD := MD.keep hb4
                        replace x3 := x3.keep hb4
                        replace x4 := x4.keep hb4
                        replace x5 := x5.keep hb4
                        replace x6 := x6.keep hb4
                        replace x7 := x7.keep hb4
                        replace x8 := x8.keep hb4
                        have e0 := MD.c3
                        have e1 := MD.c4
                        have e2 := MD.c5
                        go_wp2_with fail
                        refine (refMatFault_any d.B _ _ (MatAt.mk (show IntsAt _ a8 n8 k8 b8 o8 d.B.cells from x8))).mono ?_
                        rw [H4.out]
                        rintro e w5 ⟨rfl, hb5⟩
                        clear e0 e1 e2
                        replace ML := ML.keep hb5
                        replace MV := MV.keep hb5
                        replace MD := MD.keep hb5
                        replace x3 := x3.keep hb5
                        replace x4 := x4.keep hb5
                        replace x5 := x5.keep hb5
                        replace x6 := x6.keep hb5
                        replace x7 := x7.keep hb5
                        replace x8 := x8.keep hb5
                        go_wp2_with fail
                        go_region_held3 (fun w' => w'.cell? ⟨b1, o1 + t * 6, none⟩ = some (.int .i64 v.W.rows) ∧ w'.cell? ⟨b1, o1 + t * 6 + 1, none⟩ = some (.int .i64 v.W.cols) ∧ w'.cell? ⟨b1, o1 + t * 6 + 2, none⟩ = some (.slice a5 n5 k5) ∧ w'.cell? ⟨b0, o0 + t * 7 + 1, none⟩ = some (.int .i64 l.W.rows) ∧ w'.cell? ⟨b0, o0 + t * 7 + 2, none⟩ = some (.int .i64 l.W.cols) ∧ w'.cell? ⟨b0, o0 + t * 7 + 3, none⟩ = some (.slice a3 n3 k3)) (exact cells_w3 (show Cells6 _ b1 (o1 + t * 6) (.int .i64 v.W.rows) (.int .i64 v.W.cols) (.slice a5 n5 k5) (.int .i64 v.B.rows) (.int .i64 v.B.cols) (.slice a6 n6 k6) from (by repeat (first | fail | (with_reducible exact MV) | (with_reducible refine Cells6.alloc ?_ _) | (with_reducible refine Cells6.drewN ?_ _) | (with_reducible refine Cells6.drew ?_) | (with_reducible refine Cells6.far ?_ ?_ _; rotate_left 1; (first | (dsimp only; omega) | omega | (simp; omega) | simp)) | (with_reducible refine Cells6.keep ?_ hb6) | exact MV))) (show Cells7 _ b0 (o0 + t * 7) (.int .i64 l.kind) (.int .i64 l.W.rows) (.int .i64 l.W.cols) (.slice a3 n3 k3) (.int .i64 l.B.rows) (.int .i64 l.B.cols) (.slice a4 n4 k4) from (by repeat (first | fail | (with_reducible exact ML) | (with_reducible refine Cells7.alloc ?_ _) | (with_reducible refine Cells7.drewN ?_ _) | (with_reducible refine Cells7.drew ?_) | (with_reducible refine Cells7.far ?_ ?_ _; rotate_left 1; (first | (dsimp only; omega) | omega | (simp; omega) | simp)) | (with_reducible refine Cells7.keep ?_ hb6) | exact ML)))) ((go_at_call 36; go_must (refine (refShaped_any v.W l.W _ _ _ _ _ _ _).mono ?_); (try rw [K0.out]); go_must (rintro e w6 ⟨rfl, hb6⟩)))
                        have ML' : Cells7 w6 b0 (o0 + t * 7) (.int .i64 l.kind) (.int .i64 l.W.rows) (.int .i64 l.W.cols) (.slice a3 n3 k3) (.int .i64 l.B.rows) (.int .i64 l.B.cols) (.slice a4 n4 k4) := (by repeat (first | fail | (with_reducible exact ML) | (with_reducible refine Cells7.alloc ?_ _) | (with_reducible refine Cells7.drewN ?_ _) | (with_reducible refine Cells7.drew ?_) | (with_reducible refine Cells7.far ?_ ?_ _; rotate_left 1; (first | (dsimp only; omega) | omega | (simp; omega) | simp)) | (with_reducible refine Cells7.keep ?_ hb6) | exact ML))
                        have MV' : Cells6 w6 b1 (o1 + t * 6) (.int .i64 v.W.rows) (.int .i64 v.W.cols) (.slice a5 n5 k5) (.int .i64 v.B.rows) (.int .i64 v.B.cols) (.slice a6 n6 k6) := (by repeat (first | fail | (with_reducible exact MV) | (with_reducible refine Cells6.alloc ?_ _) | (with_reducible refine Cells6.drewN ?_ _) | (with_reducible refine Cells6.drew ?_) | (with_reducible refine Cells6.far ?_ ?_ _; rotate_left 1; (first | (dsimp only; omega) | omega | (simp; omega) | simp)) | (with_reducible refine Cells6.keep ?_ hb6) | exact MV))
                        have MD' : Cells6 w6 b2 (o2 + t * 6) (.int .i64 d.W.rows) (.int .i64 d.W.cols) (.slice a7 n7 k7) (.int .i64 d.B.rows) (.int .i64 d.B.cols) (.slice a8 n8 k8) := (by repeat (first | fail | (with_reducible exact MD) | (with_reducible refine Cells6.alloc ?_ _) | (with_reducible refine Cells6.drewN ?_ _) | (with_reducible refine Cells6.drew ?_) | (with_reducible refine Cells6.far ?_ ?_ _; rotate_left 1; (first | (dsimp only; omega) | omega | (simp; omega) | simp)) | (with_reducible refine Cells6.keep ?_ hb6) | exact MD))
                        clear ML MV MD
                        have ML := ML'
                        have MV := MV'
                        have MD := MD'
                        clear ML' MV' MD'
                        go_wp2_with fail
                        go_region_held3 (fun w' => w'.cell? ⟨b1, o1 + t * 6 + 3, none⟩ = some (.int .i64 v.B.rows) ∧ w'.cell? ⟨b1, o1 + t * 6 + 4, none⟩ = some (.int .i64 v.B.cols) ∧ w'.cell? ⟨b1, o1 + t * 6 + 5, none⟩ = some (.slice a6 n6 k6) ∧ w'.cell? ⟨b0, o0 + t * 7 + 4, none⟩ = some (.int .i64 l.B.rows) ∧ w'.cell? ⟨b0, o0 + t * 7 + 5, none⟩ = some (.int .i64 l.B.cols) ∧ w'.cell? ⟨b0, o0 + t * 7 + 6, none⟩ = some (.slice a4 n4 k4)) (exact cells_b3 (show Cells6 _ b1 (o1 + t * 6) (.int .i64 v.W.rows) (.int .i64 v.W.cols) (.slice a5 n5 k5) (.int .i64 v.B.rows) (.int .i64 v.B.cols) (.slice a6 n6 k6) from (by repeat (first | fail | (with_reducible exact MV) | (with_reducible refine Cells6.alloc ?_ _) | (with_reducible refine Cells6.drewN ?_ _) | (with_reducible refine Cells6.drew ?_) | (with_reducible refine Cells6.far ?_ ?_ _; rotate_left 1; (first | (dsimp only; omega) | omega | (simp; omega) | simp)) | (with_reducible refine Cells6.keep ?_ hb7) | exact MV))) (show Cells7 _ b0 (o0 + t * 7) (.int .i64 l.kind) (.int .i64 l.W.rows) (.int .i64 l.W.cols) (.slice a3 n3 k3) (.int .i64 l.B.rows) (.int .i64 l.B.cols) (.slice a4 n4 k4) from (by repeat (first | fail | (with_reducible exact ML) | (with_reducible refine Cells7.alloc ?_ _) | (with_reducible refine Cells7.drewN ?_ _) | (with_reducible refine Cells7.drew ?_) | (with_reducible refine Cells7.far ?_ ?_ _; rotate_left 1; (first | (dsimp only; omega) | omega | (simp; omega) | simp)) | (with_reducible refine Cells7.keep ?_ hb7) | exact ML)))) ((go_at_call 36; go_must (refine (refShaped_any v.B l.B _ _ _ _ _ _ _).mono ?_); (try rw [K1.out]); go_must (rintro e w7 ⟨rfl, hb7⟩)))
                        have ML' : Cells7 w7 b0 (o0 + t * 7) (.int .i64 l.kind) (.int .i64 l.W.rows) (.int .i64 l.W.cols) (.slice a3 n3 k3) (.int .i64 l.B.rows) (.int .i64 l.B.cols) (.slice a4 n4 k4) := (by repeat (first | fail | (with_reducible exact ML) | (with_reducible refine Cells7.alloc ?_ _) | (with_reducible refine Cells7.drewN ?_ _) | (with_reducible refine Cells7.drew ?_) | (with_reducible refine Cells7.far ?_ ?_ _; rotate_left 1; (first | (dsimp only; omega) | omega | (simp; omega) | simp)) | (with_reducible refine Cells7.keep ?_ hb7) | exact ML))
                        have MV' : Cells6 w7 b1 (o1 + t * 6) (.int .i64 v.W.rows) (.int .i64 v.W.cols) (.slice a5 n5 k5) (.int .i64 v.B.rows) (.int .i64 v.B.cols) (.slice a6 n6 k6) := (by repeat (first | fail | (with_reducible exact MV) | (with_reducible refine Cells6.alloc ?_ _) | (with_reducible refine Cells6.drewN ?_ _) | (with_reducible refine Cells6.drew ?_) | (with_reducible refine Cells6.far ?_ ?_ _; rotate_left 1; (first | (dsimp only; omega) | omega | (simp; omega) | simp)) | (with_reducible refine Cells6.keep ?_ hb7) | exact MV))
                        have MD' : Cells6 w7 b2 (o2 + t * 6) (.int .i64 d.W.rows) (.int .i64 d.W.cols) (.slice a7 n7 k7) (.int .i64 d.B.rows) (.int .i64 d.B.cols) (.slice a8 n8 k8) := (by repeat (first | fail | (with_reducible exact MD) | (with_reducible refine Cells6.alloc ?_ _) | (with_reducible refine Cells6.drewN ?_ _) | (with_reducible refine Cells6.drew ?_) | (with_reducible refine Cells6.far ?_ ?_ _; rotate_left 1; (first | (dsimp only; omega) | omega | (simp; omega) | simp)) | (with_reducible refine Cells6.keep ?_ hb7) | exact MD))
                        clear ML MV MD
                        have ML := ML'
                        have MV := MV'
                        have MD := MD'
                        clear ML' MV' MD'
                        go_wp2_with fail
                        go_region_held3 (fun w' => w'.cell? ⟨b2, o2 + t * 6, none⟩ = some (.int .i64 d.W.rows) ∧ w'.cell? ⟨b2, o2 + t * 6 + 1, none⟩ = some (.int .i64 d.W.cols) ∧ w'.cell? ⟨b2, o2 + t * 6 + 2, none⟩ = some (.slice a7 n7 k7) ∧ w'.cell? ⟨b0, o0 + t * 7 + 1, none⟩ = some (.int .i64 l.W.rows) ∧ w'.cell? ⟨b0, o0 + t * 7 + 2, none⟩ = some (.int .i64 l.W.cols) ∧ w'.cell? ⟨b0, o0 + t * 7 + 3, none⟩ = some (.slice a3 n3 k3)) (exact cells_w3 (show Cells6 _ b2 (o2 + t * 6) (.int .i64 d.W.rows) (.int .i64 d.W.cols) (.slice a7 n7 k7) (.int .i64 d.B.rows) (.int .i64 d.B.cols) (.slice a8 n8 k8) from (by repeat (first | fail | (with_reducible exact MD) | (with_reducible refine Cells6.alloc ?_ _) | (with_reducible refine Cells6.drewN ?_ _) | (with_reducible refine Cells6.drew ?_) | (with_reducible refine Cells6.far ?_ ?_ _; rotate_left 1; (first | (dsimp only; omega) | omega | (simp; omega) | simp)) | (with_reducible refine Cells6.keep ?_ hb8) | exact MD))) (show Cells7 _ b0 (o0 + t * 7) (.int .i64 l.kind) (.int .i64 l.W.rows) (.int .i64 l.W.cols) (.slice a3 n3 k3) (.int .i64 l.B.rows) (.int .i64 l.B.cols) (.slice a4 n4 k4) from (by repeat (first | fail | (with_reducible exact ML) | (with_reducible refine Cells7.alloc ?_ _) | (with_reducible refine Cells7.drewN ?_ _) | (with_reducible refine Cells7.drew ?_) | (with_reducible refine Cells7.far ?_ ?_ _; rotate_left 1; (first | (dsimp only; omega) | omega | (simp; omega) | simp)) | (with_reducible refine Cells7.keep ?_ hb8) | exact ML)))) ((go_at_call 36; go_must (refine (refShaped_any d.W l.W _ _ _ _ _ _ _).mono ?_); (try rw [K2.out]); go_must (rintro e w8 ⟨rfl, hb8⟩)))
                        have ML' : Cells7 w8 b0 (o0 + t * 7) (.int .i64 l.kind) (.int .i64 l.W.rows) (.int .i64 l.W.cols) (.slice a3 n3 k3) (.int .i64 l.B.rows) (.int .i64 l.B.cols) (.slice a4 n4 k4) := (by repeat (first | fail | (with_reducible exact ML) | (with_reducible refine Cells7.alloc ?_ _) | (with_reducible refine Cells7.drewN ?_ _) | (with_reducible refine Cells7.drew ?_) | (with_reducible refine Cells7.far ?_ ?_ _; rotate_left 1; (first | (dsimp only; omega) | omega | (simp; omega) | simp)) | (with_reducible refine Cells7.keep ?_ hb8) | exact ML))
                        have MV' : Cells6 w8 b1 (o1 + t * 6) (.int .i64 v.W.rows) (.int .i64 v.W.cols) (.slice a5 n5 k5) (.int .i64 v.B.rows) (.int .i64 v.B.cols) (.slice a6 n6 k6) := (by repeat (first | fail | (with_reducible exact MV) | (with_reducible refine Cells6.alloc ?_ _) | (with_reducible refine Cells6.drewN ?_ _) | (with_reducible refine Cells6.drew ?_) | (with_reducible refine Cells6.far ?_ ?_ _; rotate_left 1; (first | (dsimp only; omega) | omega | (simp; omega) | simp)) | (with_reducible refine Cells6.keep ?_ hb8) | exact MV))
                        have MD' : Cells6 w8 b2 (o2 + t * 6) (.int .i64 d.W.rows) (.int .i64 d.W.cols) (.slice a7 n7 k7) (.int .i64 d.B.rows) (.int .i64 d.B.cols) (.slice a8 n8 k8) := (by repeat (first | fail | (with_reducible exact MD) | (with_reducible refine Cells6.alloc ?_ _) | (with_reducible refine Cells6.drewN ?_ _) | (with_reducible refine Cells6.drew ?_) | (with_reducible refine Cells6.far ?_ ?_ _; rotate_left 1; (first | (dsimp only; omega) | omega | (simp; omega) | simp)) | (with_reducible refine Cells6.keep ?_ hb8) | exact MD))
                        clear ML MV MD
                        have ML := ML'
                        have MV := MV'
                        have MD := MD'
                        clear ML' MV' MD'
                        go_wp2_with fail
                        go_region_held3 (fun w' => w'.cell? ⟨b2, o2 + t * 6 + 3, none⟩ = some (.int .i64 d.B.rows) ∧ w'.cell? ⟨b2, o2 + t * 6 + 4, none⟩ = some (.int .i64 d.B.cols) ∧ w'.cell? ⟨b2, o2 + t * 6 + 5, none⟩ = some (.slice a8 n8 k8) ∧ w'.cell? ⟨b0, o0 + t * 7 + 4, none⟩ = some (.int .i64 l.B.rows) ∧ w'.cell? ⟨b0, o0 + t * 7 + 5, none⟩ = some (.int .i64 l.B.cols) ∧ w'.cell? ⟨b0, o0 + t * 7 + 6, none⟩ = some (.slice a4 n4 k4)) (exact cells_b3 (show Cells6 _ b2 (o2 + t * 6) (.int .i64 d.W.rows) (.int .i64 d.W.cols) (.slice a7 n7 k7) (.int .i64 d.B.rows) (.int .i64 d.B.cols) (.slice a8 n8 k8) from (by repeat (first | fail | (with_reducible exact MD) | (with_reducible refine Cells6.alloc ?_ _) | (with_reducible refine Cells6.drewN ?_ _) | (with_reducible refine Cells6.drew ?_) | (with_reducible refine Cells6.far ?_ ?_ _; rotate_left 1; (first | (dsimp only; omega) | omega | (simp; omega) | simp)) | (with_reducible refine Cells6.keep ?_ hb9) | exact MD))) (show Cells7 _ b0 (o0 + t * 7) (.int .i64 l.kind) (.int .i64 l.W.rows) (.int .i64 l.W.cols) (.slice a3 n3 k3) (.int .i64 l.B.rows) (.int .i64 l.B.cols) (.slice a4 n4 k4) from (by repeat (first | fail | (with_reducible exact ML) | (with_reducible refine Cells7.alloc ?_ _) | (with_reducible refine Cells7.drewN ?_ _) | (with_reducible refine Cells7.drew ?_) | (with_reducible refine Cells7.far ?_ ?_ _; rotate_left 1; (first | (dsimp only; omega) | omega | (simp; omega) | simp)) | (with_reducible refine Cells7.keep ?_ hb9) | exact ML)))) ((go_at_call 36; go_must (refine (refShaped_any d.B l.B _ _ _ _ _ _ _).mono ?_); (try rw [K3.out]); go_must (rintro e w9 ⟨rfl, hb9⟩)))
                        have hbe : Below w.heap.size w w9 := (by repeat (first | fail | (with_reducible exact Below.refl _ _) | (with_reducible exact hbr) | (with_reducible refine Below.al ?_ _) | (with_reducible refine Below.drN ?_ _) | (with_reducible refine Below.drew ?_) | (with_reducible refine Below.st ?_ ?_ _; rotate_left 1; (first | (dsimp only; omega) | omega | (simp; omega) | simp)) | (with_reducible refine Below.go ?_ hb9) | (with_reducible refine Below.go ?_ hb8) | (with_reducible refine Below.go ?_ hb7) | (with_reducible refine Below.go ?_ hb6) | (with_reducible refine Below.go ?_ hb5) | (with_reducible refine Below.go ?_ hb4) | (with_reducible refine Below.go ?_ hb3) | (with_reducible refine Below.go ?_ hb2) | (with_reducible refine Below.go ?_ hb1) | exact Below.refl _ _ | exact hbr))
                        clear ML MV MD x3 x4 x5 x6 x7 x8
                        go_wp2
                        go_ret
                        exact ⟨(by rw [HST.out]; try rfl), (by repeat (first | fail | (with_reducible exact Below.refl _ _) | (with_reducible exact hbe) | (with_reducible refine Below.al ?_ _) | (with_reducible refine Below.drN ?_ _) | (with_reducible refine Below.drew ?_) | (with_reducible refine Below.st ?_ ?_ _; rotate_left 1; (first | (dsimp only; omega) | omega | (simp; omega) | simp)) | exact Below.refl _ _ | exact hbe))⟩

                    · have K2 : Hid (decide (likeShape d.W l.W) = false) := Lib.hid (decide_eq_false s2)
                      have HFI : Hid (fitsFault l v d = 2) := Lib.hid (by unfold fitsFault; rw [if_neg (by simp [H0.out]), if_neg (by simp [H1.out]), if_neg (by simp [H2.out]), if_neg (by simp [H3.out]), if_neg (by simp [H4.out]), if_neg (by rintro ⟨q0, q1, q2, q3⟩; exact s2 q2)])
                      have HST : Hid (stepFault ls vs ds ln kp = 2) := Lib.hid (by rw [HF.out, step_stop (f := 2) HT.out hlt (by rw [← HX.out.1, ← HX.out.2.1, ← HX.out.2.2]; exact HFI.out) (by decide)])
                      clear s2
                      have e0 := ML.c0
                      have e1 := ML.c1
                      have e2 := ML.c2
                      have e3 := ML.c3
                      have e4 := ML.c4
                      have e5 := ML.c5
                      have e6 := ML.c6
                      go_wp2_with fail
                      refine (refLayerFault_any l _ _ ⟨a3, n3, k3, b3, o3, a4, n4, k4, b4, o4, rfl, x3, x4⟩).mono ?_
                      rw [H0.out]
                      rintro e w1 ⟨rfl, hb1⟩
                      clear e0 e1 e2 e3 e4 e5 e6
                      replace ML := ML.keep hb1
                      replace MV := MV.keep hb1
                      replace MD := MD.keep hb1
                      replace x3 := x3.keep hb1
                      replace x4 := x4.keep hb1
                      replace x5 := x5.keep hb1
                      replace x6 := x6.keep hb1
                      replace x7 := x7.keep hb1
                      replace x8 := x8.keep hb1
                      have e0 := MV.c0
                      have e1 := MV.c1
                      have e2 := MV.c2
                      go_wp2_with fail
                      refine (refMatFault_any v.W _ _ (MatAt.mk (show IntsAt _ a5 n5 k5 b5 o5 v.W.cells from x5))).mono ?_
                      rw [H1.out]
                      rintro e w2 ⟨rfl, hb2⟩
                      clear e0 e1 e2
                      replace ML := ML.keep hb2
                      replace MV := MV.keep hb2
                      replace MD := MD.keep hb2
                      replace x3 := x3.keep hb2
                      replace x4 := x4.keep hb2
                      replace x5 := x5.keep hb2
                      replace x6 := x6.keep hb2
                      replace x7 := x7.keep hb2
                      replace x8 := x8.keep hb2
                      have e0 := MV.c3
                      have e1 := MV.c4
                      have e2 := MV.c5
                      go_wp2_with fail
                      refine (refMatFault_any v.B _ _ (MatAt.mk (show IntsAt _ a6 n6 k6 b6 o6 v.B.cells from x6))).mono ?_
                      rw [H2.out]
                      rintro e w3 ⟨rfl, hb3⟩
                      clear e0 e1 e2
                      replace ML := ML.keep hb3
                      replace MV := MV.keep hb3
                      replace MD := MD.keep hb3
                      replace x3 := x3.keep hb3
                      replace x4 := x4.keep hb3
                      replace x5 := x5.keep hb3
                      replace x6 := x6.keep hb3
                      replace x7 := x7.keep hb3
                      replace x8 := x8.keep hb3
                      have e0 := MD.c0
                      have e1 := MD.c1
                      have e2 := MD.c2
                      go_wp2_with fail
                      refine (refMatFault_any d.W _ _ (MatAt.mk (show IntsAt _ a7 n7 k7 b7 o7 d.W.cells from x7))).mono ?_
                      rw [H3.out]
                      rintro e w4 ⟨rfl, hb4⟩
                      clear e0 e1 e2
                      replace ML := ML.keep hb4
                      replace MV := MV.keep hb4
                      replace MD := MD.keep hb4
                      replace x3 := x3.keep hb4
                      replace x4 := x4.keep hb4
                      replace x5 := x5.keep hb4
                      replace x6 := x6.keep hb4
                      replace x7 := x7.keep hb4
                      replace x8 := x8.keep hb4
                      have e0 := MD.c3
                      have e1 := MD.c4
                      have e2 := MD.c5
                      go_wp2_with fail
                      refine (refMatFault_any d.B _ _ (MatAt.mk (show IntsAt _ a8 n8 k8 b8 o8 d.B.cells from x8))).mono ?_
                      rw [H4.out]
                      rintro e w5 ⟨rfl, hb5⟩
                      clear e0 e1 e2
                      replace ML := ML.keep hb5
                      replace MV := MV.keep hb5
                      replace MD := MD.keep hb5
                      replace x3 := x3.keep hb5
                      replace x4 := x4.keep hb5
                      replace x5 := x5.keep hb5
                      replace x6 := x6.keep hb5
                      replace x7 := x7.keep hb5
                      replace x8 := x8.keep hb5
                      go_wp2_with fail
                      go_region_held3 (fun w' => w'.cell? ⟨b1, o1 + t * 6, none⟩ = some (.int .i64 v.W.rows) ∧ w'.cell? ⟨b1, o1 + t * 6 + 1, none⟩ = some (.int .i64 v.W.cols) ∧ w'.cell? ⟨b1, o1 + t * 6 + 2, none⟩ = some (.slice a5 n5 k5) ∧ w'.cell? ⟨b0, o0 + t * 7 + 1, none⟩ = some (.int .i64 l.W.rows) ∧ w'.cell? ⟨b0, o0 + t * 7 + 2, none⟩ = some (.int .i64 l.W.cols) ∧ w'.cell? ⟨b0, o0 + t * 7 + 3, none⟩ = some (.slice a3 n3 k3)) (exact cells_w3 (show Cells6 _ b1 (o1 + t * 6) (.int .i64 v.W.rows) (.int .i64 v.W.cols) (.slice a5 n5 k5) (.int .i64 v.B.rows) (.int .i64 v.B.cols) (.slice a6 n6 k6) from (by repeat (first | fail | (with_reducible exact MV) | (with_reducible refine Cells6.alloc ?_ _) | (with_reducible refine Cells6.drewN ?_ _) | (with_reducible refine Cells6.drew ?_) | (with_reducible refine Cells6.far ?_ ?_ _; rotate_left 1; (first | (dsimp only; omega) | omega | (simp; omega) | simp)) | (with_reducible refine Cells6.keep ?_ hb6) | exact MV))) (show Cells7 _ b0 (o0 + t * 7) (.int .i64 l.kind) (.int .i64 l.W.rows) (.int .i64 l.W.cols) (.slice a3 n3 k3) (.int .i64 l.B.rows) (.int .i64 l.B.cols) (.slice a4 n4 k4) from (by repeat (first | fail | (with_reducible exact ML) | (with_reducible refine Cells7.alloc ?_ _) | (with_reducible refine Cells7.drewN ?_ _) | (with_reducible refine Cells7.drew ?_) | (with_reducible refine Cells7.far ?_ ?_ _; rotate_left 1; (first | (dsimp only; omega) | omega | (simp; omega) | simp)) | (with_reducible refine Cells7.keep ?_ hb6) | exact ML)))) ((go_at_call 36; go_must (refine (refShaped_any v.W l.W _ _ _ _ _ _ _).mono ?_); (try rw [K0.out]); go_must (rintro e w6 ⟨rfl, hb6⟩)))
                      have ML' : Cells7 w6 b0 (o0 + t * 7) (.int .i64 l.kind) (.int .i64 l.W.rows) (.int .i64 l.W.cols) (.slice a3 n3 k3) (.int .i64 l.B.rows) (.int .i64 l.B.cols) (.slice a4 n4 k4) := (by repeat (first | fail | (with_reducible exact ML) | (with_reducible refine Cells7.alloc ?_ _) | (with_reducible refine Cells7.drewN ?_ _) | (with_reducible refine Cells7.drew ?_) | (with_reducible refine Cells7.far ?_ ?_ _; rotate_left 1; (first | (dsimp only; omega) | omega | (simp; omega) | simp)) | (with_reducible refine Cells7.keep ?_ hb6) | exact ML))
                      have MV' : Cells6 w6 b1 (o1 + t * 6) (.int .i64 v.W.rows) (.int .i64 v.W.cols) (.slice a5 n5 k5) (.int .i64 v.B.rows) (.int .i64 v.B.cols) (.slice a6 n6 k6) := (by repeat (first | fail | (with_reducible exact MV) | (with_reducible refine Cells6.alloc ?_ _) | (with_reducible refine Cells6.drewN ?_ _) | (with_reducible refine Cells6.drew ?_) | (with_reducible refine Cells6.far ?_ ?_ _; rotate_left 1; (first | (dsimp only; omega) | omega | (simp; omega) | simp)) | (with_reducible refine Cells6.keep ?_ hb6) | exact MV))
                      have MD' : Cells6 w6 b2 (o2 + t * 6) (.int .i64 d.W.rows) (.int .i64 d.W.cols) (.slice a7 n7 k7) (.int .i64 d.B.rows) (.int .i64 d.B.cols) (.slice a8 n8 k8) := (by repeat (first | fail | (with_reducible exact MD) | (with_reducible refine Cells6.alloc ?_ _) | (with_reducible refine Cells6.drewN ?_ _) | (with_reducible refine Cells6.drew ?_) | (with_reducible refine Cells6.far ?_ ?_ _; rotate_left 1; (first | (dsimp only; omega) | omega | (simp; omega) | simp)) | (with_reducible refine Cells6.keep ?_ hb6) | exact MD))
                      clear ML MV MD
                      have ML := ML'
                      have MV := MV'
                      have MD := MD'
                      clear ML' MV' MD'
                      go_wp2_with fail
                      go_region_held3 (fun w' => w'.cell? ⟨b1, o1 + t * 6 + 3, none⟩ = some (.int .i64 v.B.rows) ∧ w'.cell? ⟨b1, o1 + t * 6 + 4, none⟩ = some (.int .i64 v.B.cols) ∧ w'.cell? ⟨b1, o1 + t * 6 + 5, none⟩ = some (.slice a6 n6 k6) ∧ w'.cell? ⟨b0, o0 + t * 7 + 4, none⟩ = some (.int .i64 l.B.rows) ∧ w'.cell? ⟨b0, o0 + t * 7 + 5, none⟩ = some (.int .i64 l.B.cols) ∧ w'.cell? ⟨b0, o0 + t * 7 + 6, none⟩ = some (.slice a4 n4 k4)) (exact cells_b3 (show Cells6 _ b1 (o1 + t * 6) (.int .i64 v.W.rows) (.int .i64 v.W.cols) (.slice a5 n5 k5) (.int .i64 v.B.rows) (.int .i64 v.B.cols) (.slice a6 n6 k6) from (by repeat (first | fail | (with_reducible exact MV) | (with_reducible refine Cells6.alloc ?_ _) | (with_reducible refine Cells6.drewN ?_ _) | (with_reducible refine Cells6.drew ?_) | (with_reducible refine Cells6.far ?_ ?_ _; rotate_left 1; (first | (dsimp only; omega) | omega | (simp; omega) | simp)) | (with_reducible refine Cells6.keep ?_ hb7) | exact MV))) (show Cells7 _ b0 (o0 + t * 7) (.int .i64 l.kind) (.int .i64 l.W.rows) (.int .i64 l.W.cols) (.slice a3 n3 k3) (.int .i64 l.B.rows) (.int .i64 l.B.cols) (.slice a4 n4 k4) from (by repeat (first | fail | (with_reducible exact ML) | (with_reducible refine Cells7.alloc ?_ _) | (with_reducible refine Cells7.drewN ?_ _) | (with_reducible refine Cells7.drew ?_) | (with_reducible refine Cells7.far ?_ ?_ _; rotate_left 1; (first | (dsimp only; omega) | omega | (simp; omega) | simp)) | (with_reducible refine Cells7.keep ?_ hb7) | exact ML)))) ((go_at_call 36; go_must (refine (refShaped_any v.B l.B _ _ _ _ _ _ _).mono ?_); (try rw [K1.out]); go_must (rintro e w7 ⟨rfl, hb7⟩)))
                      have ML' : Cells7 w7 b0 (o0 + t * 7) (.int .i64 l.kind) (.int .i64 l.W.rows) (.int .i64 l.W.cols) (.slice a3 n3 k3) (.int .i64 l.B.rows) (.int .i64 l.B.cols) (.slice a4 n4 k4) := (by repeat (first | fail | (with_reducible exact ML) | (with_reducible refine Cells7.alloc ?_ _) | (with_reducible refine Cells7.drewN ?_ _) | (with_reducible refine Cells7.drew ?_) | (with_reducible refine Cells7.far ?_ ?_ _; rotate_left 1; (first | (dsimp only; omega) | omega | (simp; omega) | simp)) | (with_reducible refine Cells7.keep ?_ hb7) | exact ML))
                      have MV' : Cells6 w7 b1 (o1 + t * 6) (.int .i64 v.W.rows) (.int .i64 v.W.cols) (.slice a5 n5 k5) (.int .i64 v.B.rows) (.int .i64 v.B.cols) (.slice a6 n6 k6) := (by repeat (first | fail | (with_reducible exact MV) | (with_reducible refine Cells6.alloc ?_ _) | (with_reducible refine Cells6.drewN ?_ _) | (with_reducible refine Cells6.drew ?_) | (with_reducible refine Cells6.far ?_ ?_ _; rotate_left 1; (first | (dsimp only; omega) | omega | (simp; omega) | simp)) | (with_reducible refine Cells6.keep ?_ hb7) | exact MV))
                      have MD' : Cells6 w7 b2 (o2 + t * 6) (.int .i64 d.W.rows) (.int .i64 d.W.cols) (.slice a7 n7 k7) (.int .i64 d.B.rows) (.int .i64 d.B.cols) (.slice a8 n8 k8) := (by repeat (first | fail | (with_reducible exact MD) | (with_reducible refine Cells6.alloc ?_ _) | (with_reducible refine Cells6.drewN ?_ _) | (with_reducible refine Cells6.drew ?_) | (with_reducible refine Cells6.far ?_ ?_ _; rotate_left 1; (first | (dsimp only; omega) | omega | (simp; omega) | simp)) | (with_reducible refine Cells6.keep ?_ hb7) | exact MD))
                      clear ML MV MD
                      have ML := ML'
                      have MV := MV'
                      have MD := MD'
                      clear ML' MV' MD'
                      go_wp2_with fail
                      go_region_held3 (fun w' => w'.cell? ⟨b2, o2 + t * 6, none⟩ = some (.int .i64 d.W.rows) ∧ w'.cell? ⟨b2, o2 + t * 6 + 1, none⟩ = some (.int .i64 d.W.cols) ∧ w'.cell? ⟨b2, o2 + t * 6 + 2, none⟩ = some (.slice a7 n7 k7) ∧ w'.cell? ⟨b0, o0 + t * 7 + 1, none⟩ = some (.int .i64 l.W.rows) ∧ w'.cell? ⟨b0, o0 + t * 7 + 2, none⟩ = some (.int .i64 l.W.cols) ∧ w'.cell? ⟨b0, o0 + t * 7 + 3, none⟩ = some (.slice a3 n3 k3)) (exact cells_w3 (show Cells6 _ b2 (o2 + t * 6) (.int .i64 d.W.rows) (.int .i64 d.W.cols) (.slice a7 n7 k7) (.int .i64 d.B.rows) (.int .i64 d.B.cols) (.slice a8 n8 k8) from (by repeat (first | fail | (with_reducible exact MD) | (with_reducible refine Cells6.alloc ?_ _) | (with_reducible refine Cells6.drewN ?_ _) | (with_reducible refine Cells6.drew ?_) | (with_reducible refine Cells6.far ?_ ?_ _; rotate_left 1; (first | (dsimp only; omega) | omega | (simp; omega) | simp)) | (with_reducible refine Cells6.keep ?_ hb8) | exact MD))) (show Cells7 _ b0 (o0 + t * 7) (.int .i64 l.kind) (.int .i64 l.W.rows) (.int .i64 l.W.cols) (.slice a3 n3 k3) (.int .i64 l.B.rows) (.int .i64 l.B.cols) (.slice a4 n4 k4) from (by repeat (first | fail | (with_reducible exact ML) | (with_reducible refine Cells7.alloc ?_ _) | (with_reducible refine Cells7.drewN ?_ _) | (with_reducible refine Cells7.drew ?_) | (with_reducible refine Cells7.far ?_ ?_ _; rotate_left 1; (first | (dsimp only; omega) | omega | (simp; omega) | simp)) | (with_reducible refine Cells7.keep ?_ hb8) | exact ML)))) ((go_at_call 36; go_must (refine (refShaped_any d.W l.W _ _ _ _ _ _ _).mono ?_); (try rw [K2.out]); go_must (rintro e w8 ⟨rfl, hb8⟩)))
                      have ML' : Cells7 w8 b0 (o0 + t * 7) (.int .i64 l.kind) (.int .i64 l.W.rows) (.int .i64 l.W.cols) (.slice a3 n3 k3) (.int .i64 l.B.rows) (.int .i64 l.B.cols) (.slice a4 n4 k4) := (by repeat (first | fail | (with_reducible exact ML) | (with_reducible refine Cells7.alloc ?_ _) | (with_reducible refine Cells7.drewN ?_ _) | (with_reducible refine Cells7.drew ?_) | (with_reducible refine Cells7.far ?_ ?_ _; rotate_left 1; (first | (dsimp only; omega) | omega | (simp; omega) | simp)) | (with_reducible refine Cells7.keep ?_ hb8) | exact ML))
                      have MV' : Cells6 w8 b1 (o1 + t * 6) (.int .i64 v.W.rows) (.int .i64 v.W.cols) (.slice a5 n5 k5) (.int .i64 v.B.rows) (.int .i64 v.B.cols) (.slice a6 n6 k6) := (by repeat (first | fail | (with_reducible exact MV) | (with_reducible refine Cells6.alloc ?_ _) | (with_reducible refine Cells6.drewN ?_ _) | (with_reducible refine Cells6.drew ?_) | (with_reducible refine Cells6.far ?_ ?_ _; rotate_left 1; (first | (dsimp only; omega) | omega | (simp; omega) | simp)) | (with_reducible refine Cells6.keep ?_ hb8) | exact MV))
                      have MD' : Cells6 w8 b2 (o2 + t * 6) (.int .i64 d.W.rows) (.int .i64 d.W.cols) (.slice a7 n7 k7) (.int .i64 d.B.rows) (.int .i64 d.B.cols) (.slice a8 n8 k8) := (by repeat (first | fail | (with_reducible exact MD) | (with_reducible refine Cells6.alloc ?_ _) | (with_reducible refine Cells6.drewN ?_ _) | (with_reducible refine Cells6.drew ?_) | (with_reducible refine Cells6.far ?_ ?_ _; rotate_left 1; (first | (dsimp only; omega) | omega | (simp; omega) | simp)) | (with_reducible refine Cells6.keep ?_ hb8) | exact MD))
                      clear ML MV MD
                      have ML := ML'
                      have MV := MV'
                      have MD := MD'
                      clear ML' MV' MD'
                      go_wp2_with fail
                      go_region_held3 (fun w' => w'.cell? ⟨b2, o2 + t * 6 + 3, none⟩ = some (.int .i64 d.B.rows) ∧ w'.cell? ⟨b2, o2 + t * 6 + 4, none⟩ = some (.int .i64 d.B.cols) ∧ w'.cell? ⟨b2, o2 + t * 6 + 5, none⟩ = some (.slice a8 n8 k8) ∧ w'.cell? ⟨b0, o0 + t * 7 + 4, none⟩ = some (.int .i64 l.B.rows) ∧ w'.cell? ⟨b0, o0 + t * 7 + 5, none⟩ = some (.int .i64 l.B.cols) ∧ w'.cell? ⟨b0, o0 + t * 7 + 6, none⟩ = some (.slice a4 n4 k4)) (exact cells_b3 (show Cells6 _ b2 (o2 + t * 6) (.int .i64 d.W.rows) (.int .i64 d.W.cols) (.slice a7 n7 k7) (.int .i64 d.B.rows) (.int .i64 d.B.cols) (.slice a8 n8 k8) from (by repeat (first | fail | (with_reducible exact MD) | (with_reducible refine Cells6.alloc ?_ _) | (with_reducible refine Cells6.drewN ?_ _) | (with_reducible refine Cells6.drew ?_) | (with_reducible refine Cells6.far ?_ ?_ _; rotate_left 1; (first | (dsimp only; omega) | omega | (simp; omega) | simp)) | (with_reducible refine Cells6.keep ?_ hb9) | exact MD))) (show Cells7 _ b0 (o0 + t * 7) (.int .i64 l.kind) (.int .i64 l.W.rows) (.int .i64 l.W.cols) (.slice a3 n3 k3) (.int .i64 l.B.rows) (.int .i64 l.B.cols) (.slice a4 n4 k4) from (by repeat (first | fail | (with_reducible exact ML) | (with_reducible refine Cells7.alloc ?_ _) | (with_reducible refine Cells7.drewN ?_ _) | (with_reducible refine Cells7.drew ?_) | (with_reducible refine Cells7.far ?_ ?_ _; rotate_left 1; (first | (dsimp only; omega) | omega | (simp; omega) | simp)) | (with_reducible refine Cells7.keep ?_ hb9) | exact ML)))) ((go_at_call 36; go_must (refine (refShaped_any d.B l.B _ _ _ _ _ _ _).mono ?_); (try rw [K3.out]); go_must (rintro e w9 ⟨rfl, hb9⟩)))
                      have hbe : Below w.heap.size w w9 := (by repeat (first | fail | (with_reducible exact Below.refl _ _) | (with_reducible exact hbr) | (with_reducible refine Below.al ?_ _) | (with_reducible refine Below.drN ?_ _) | (with_reducible refine Below.drew ?_) | (with_reducible refine Below.st ?_ ?_ _; rotate_left 1; (first | (dsimp only; omega) | omega | (simp; omega) | simp)) | (with_reducible refine Below.go ?_ hb9) | (with_reducible refine Below.go ?_ hb8) | (with_reducible refine Below.go ?_ hb7) | (with_reducible refine Below.go ?_ hb6) | (with_reducible refine Below.go ?_ hb5) | (with_reducible refine Below.go ?_ hb4) | (with_reducible refine Below.go ?_ hb3) | (with_reducible refine Below.go ?_ hb2) | (with_reducible refine Below.go ?_ hb1) | exact Below.refl _ _ | exact hbr))
                      clear ML MV MD x3 x4 x5 x6 x7 x8
                      go_wp2
                      go_ret
                      exact ⟨(by rw [HST.out]; try rfl), (by repeat (first | fail | (with_reducible exact Below.refl _ _) | (with_reducible exact hbe) | (with_reducible refine Below.al ?_ _) | (with_reducible refine Below.drN ?_ _) | (with_reducible refine Below.drew ?_) | (with_reducible refine Below.st ?_ ?_ _; rotate_left 1; (first | (dsimp only; omega) | omega | (simp; omega) | simp)) | exact Below.refl _ _ | exact hbe))⟩

                  · have K1 : Hid (decide (likeShape v.B l.B) = false) := Lib.hid (decide_eq_false s1)
                    have HFI : Hid (fitsFault l v d = 2) := Lib.hid (by unfold fitsFault; rw [if_neg (by simp [H0.out]), if_neg (by simp [H1.out]), if_neg (by simp [H2.out]), if_neg (by simp [H3.out]), if_neg (by simp [H4.out]), if_neg (by rintro ⟨q0, q1, q2, q3⟩; exact s1 q1)])
                    have HST : Hid (stepFault ls vs ds ln kp = 2) := Lib.hid (by rw [HF.out, step_stop (f := 2) HT.out hlt (by rw [← HX.out.1, ← HX.out.2.1, ← HX.out.2.2]; exact HFI.out) (by decide)])
                    clear s1
                    have e0 := ML.c0
                    have e1 := ML.c1
                    have e2 := ML.c2
                    have e3 := ML.c3
                    have e4 := ML.c4
                    have e5 := ML.c5
                    have e6 := ML.c6
                    go_wp2_with fail
                    refine (refLayerFault_any l _ _ ⟨a3, n3, k3, b3, o3, a4, n4, k4, b4, o4, rfl, x3, x4⟩).mono ?_
                    rw [H0.out]
                    rintro e w1 ⟨rfl, hb1⟩
                    clear e0 e1 e2 e3 e4 e5 e6
                    replace ML := ML.keep hb1
                    replace MV := MV.keep hb1
                    replace MD := MD.keep hb1
                    replace x3 := x3.keep hb1
                    replace x4 := x4.keep hb1
                    replace x5 := x5.keep hb1
                    replace x6 := x6.keep hb1
                    replace x7 := x7.keep hb1
                    replace x8 := x8.keep hb1
                    have e0 := MV.c0
                    have e1 := MV.c1
                    have e2 := MV.c2
                    go_wp2_with fail
                    refine (refMatFault_any v.W _ _ (MatAt.mk (show IntsAt _ a5 n5 k5 b5 o5 v.W.cells from x5))).mono ?_
                    rw [H1.out]
                    rintro e w2 ⟨rfl, hb2⟩
                    clear e0 e1 e2
                    replace ML := ML.keep hb2
                    replace MV := MV.keep hb2
                    replace MD := MD.keep hb2
                    replace x3 := x3.keep hb2
                    replace x4 := x4.keep hb2
                    replace x5 := x5.keep hb2
                    replace x6 := x6.keep hb2
                    replace x7 := x7.keep hb2
                    replace x8 := x8.keep hb2
                    have e0 := MV.c3
                    have e1 := MV.c4
                    have e2 := MV.c5
                    go_wp2_with fail
                    refine (refMatFault_any v.B _ _ (MatAt.mk (show IntsAt _ a6 n6 k6 b6 o6 v.B.cells from x6))).mono ?_
                    rw [H2.out]
                    rintro e w3 ⟨rfl, hb3⟩
                    clear e0 e1 e2
                    replace ML := ML.keep hb3
                    replace MV := MV.keep hb3
                    replace MD := MD.keep hb3
                    replace x3 := x3.keep hb3
                    replace x4 := x4.keep hb3
                    replace x5 := x5.keep hb3
                    replace x6 := x6.keep hb3
                    replace x7 := x7.keep hb3
                    replace x8 := x8.keep hb3
                    have e0 := MD.c0
                    have e1 := MD.c1
                    have e2 := MD.c2
                    go_wp2_with fail
                    refine (refMatFault_any d.W _ _ (MatAt.mk (show IntsAt _ a7 n7 k7 b7 o7 d.W.cells from x7))).mono ?_
                    rw [H3.out]
                    rintro e w4 ⟨rfl, hb4⟩
                    clear e0 e1 e2
                    replace ML := ML.keep hb4
                    replace MV := MV.keep hb4
                    replace MD := MD.keep hb4
                    replace x3 := x3.keep hb4
                    replace x4 := x4.keep hb4
                    replace x5 := x5.keep hb4
                    replace x6 := x6.keep hb4
                    replace x7 := x7.keep hb4
                    replace x8 := x8.keep hb4
                    have e0 := MD.c3
                    have e1 := MD.c4
                    have e2 := MD.c5
                    go_wp2_with fail
                    refine (refMatFault_any d.B _ _ (MatAt.mk (show IntsAt _ a8 n8 k8 b8 o8 d.B.cells from x8))).mono ?_
                    rw [H4.out]
                    rintro e w5 ⟨rfl, hb5⟩
                    clear e0 e1 e2
                    replace ML := ML.keep hb5
                    replace MV := MV.keep hb5
                    replace MD := MD.keep hb5
                    replace x3 := x3.keep hb5
                    replace x4 := x4.keep hb5
                    replace x5 := x5.keep hb5
                    replace x6 := x6.keep hb5
                    replace x7 := x7.keep hb5
                    replace x8 := x8.keep hb5
                    go_wp2_with fail
                    go_region_held3 (fun w' => w'.cell? ⟨b1, o1 + t * 6, none⟩ = some (.int .i64 v.W.rows) ∧ w'.cell? ⟨b1, o1 + t * 6 + 1, none⟩ = some (.int .i64 v.W.cols) ∧ w'.cell? ⟨b1, o1 + t * 6 + 2, none⟩ = some (.slice a5 n5 k5) ∧ w'.cell? ⟨b0, o0 + t * 7 + 1, none⟩ = some (.int .i64 l.W.rows) ∧ w'.cell? ⟨b0, o0 + t * 7 + 2, none⟩ = some (.int .i64 l.W.cols) ∧ w'.cell? ⟨b0, o0 + t * 7 + 3, none⟩ = some (.slice a3 n3 k3)) (exact cells_w3 (show Cells6 _ b1 (o1 + t * 6) (.int .i64 v.W.rows) (.int .i64 v.W.cols) (.slice a5 n5 k5) (.int .i64 v.B.rows) (.int .i64 v.B.cols) (.slice a6 n6 k6) from (by repeat (first | fail | (with_reducible exact MV) | (with_reducible refine Cells6.alloc ?_ _) | (with_reducible refine Cells6.drewN ?_ _) | (with_reducible refine Cells6.drew ?_) | (with_reducible refine Cells6.far ?_ ?_ _; rotate_left 1; (first | (dsimp only; omega) | omega | (simp; omega) | simp)) | (with_reducible refine Cells6.keep ?_ hb6) | exact MV))) (show Cells7 _ b0 (o0 + t * 7) (.int .i64 l.kind) (.int .i64 l.W.rows) (.int .i64 l.W.cols) (.slice a3 n3 k3) (.int .i64 l.B.rows) (.int .i64 l.B.cols) (.slice a4 n4 k4) from (by repeat (first | fail | (with_reducible exact ML) | (with_reducible refine Cells7.alloc ?_ _) | (with_reducible refine Cells7.drewN ?_ _) | (with_reducible refine Cells7.drew ?_) | (with_reducible refine Cells7.far ?_ ?_ _; rotate_left 1; (first | (dsimp only; omega) | omega | (simp; omega) | simp)) | (with_reducible refine Cells7.keep ?_ hb6) | exact ML)))) ((go_at_call 36; go_must (refine (refShaped_any v.W l.W _ _ _ _ _ _ _).mono ?_); (try rw [K0.out]); go_must (rintro e w6 ⟨rfl, hb6⟩)))
                    have ML' : Cells7 w6 b0 (o0 + t * 7) (.int .i64 l.kind) (.int .i64 l.W.rows) (.int .i64 l.W.cols) (.slice a3 n3 k3) (.int .i64 l.B.rows) (.int .i64 l.B.cols) (.slice a4 n4 k4) := (by repeat (first | fail | (with_reducible exact ML) | (with_reducible refine Cells7.alloc ?_ _) | (with_reducible refine Cells7.drewN ?_ _) | (with_reducible refine Cells7.drew ?_) | (with_reducible refine Cells7.far ?_ ?_ _; rotate_left 1; (first | (dsimp only; omega) | omega | (simp; omega) | simp)) | (with_reducible refine Cells7.keep ?_ hb6) | exact ML))
                    have MV' : Cells6 w6 b1 (o1 + t * 6) (.int .i64 v.W.rows) (.int .i64 v.W.cols) (.slice a5 n5 k5) (.int .i64 v.B.rows) (.int .i64 v.B.cols) (.slice a6 n6 k6) := (by repeat (first | fail | (with_reducible exact MV) | (with_reducible refine Cells6.alloc ?_ _) | (with_reducible refine Cells6.drewN ?_ _) | (with_reducible refine Cells6.drew ?_) | (with_reducible refine Cells6.far ?_ ?_ _; rotate_left 1; (first | (dsimp only; omega) | omega | (simp; omega) | simp)) | (with_reducible refine Cells6.keep ?_ hb6) | exact MV))
                    have MD' : Cells6 w6 b2 (o2 + t * 6) (.int .i64 d.W.rows) (.int .i64 d.W.cols) (.slice a7 n7 k7) (.int .i64 d.B.rows) (.int .i64 d.B.cols) (.slice a8 n8 k8) := (by repeat (first | fail | (with_reducible exact MD) | (with_reducible refine Cells6.alloc ?_ _) | (with_reducible refine Cells6.drewN ?_ _) | (with_reducible refine Cells6.drew ?_) | (with_reducible refine Cells6.far ?_ ?_ _; rotate_left 1; (first | (dsimp only; omega) | omega | (simp; omega) | simp)) | (with_reducible refine Cells6.keep ?_ hb6) | exact MD))
                    clear ML MV MD
                    have ML := ML'
                    have MV := MV'
                    have MD := MD'
                    clear ML' MV' MD'
                    go_wp2_with fail
                    go_region_held3 (fun w' => w'.cell? ⟨b1, o1 + t * 6 + 3, none⟩ = some (.int .i64 v.B.rows) ∧ w'.cell? ⟨b1, o1 + t * 6 + 4, none⟩ = some (.int .i64 v.B.cols) ∧ w'.cell? ⟨b1, o1 + t * 6 + 5, none⟩ = some (.slice a6 n6 k6) ∧ w'.cell? ⟨b0, o0 + t * 7 + 4, none⟩ = some (.int .i64 l.B.rows) ∧ w'.cell? ⟨b0, o0 + t * 7 + 5, none⟩ = some (.int .i64 l.B.cols) ∧ w'.cell? ⟨b0, o0 + t * 7 + 6, none⟩ = some (.slice a4 n4 k4)) (exact cells_b3 (show Cells6 _ b1 (o1 + t * 6) (.int .i64 v.W.rows) (.int .i64 v.W.cols) (.slice a5 n5 k5) (.int .i64 v.B.rows) (.int .i64 v.B.cols) (.slice a6 n6 k6) from (by repeat (first | fail | (with_reducible exact MV) | (with_reducible refine Cells6.alloc ?_ _) | (with_reducible refine Cells6.drewN ?_ _) | (with_reducible refine Cells6.drew ?_) | (with_reducible refine Cells6.far ?_ ?_ _; rotate_left 1; (first | (dsimp only; omega) | omega | (simp; omega) | simp)) | (with_reducible refine Cells6.keep ?_ hb7) | exact MV))) (show Cells7 _ b0 (o0 + t * 7) (.int .i64 l.kind) (.int .i64 l.W.rows) (.int .i64 l.W.cols) (.slice a3 n3 k3) (.int .i64 l.B.rows) (.int .i64 l.B.cols) (.slice a4 n4 k4) from (by repeat (first | fail | (with_reducible exact ML) | (with_reducible refine Cells7.alloc ?_ _) | (with_reducible refine Cells7.drewN ?_ _) | (with_reducible refine Cells7.drew ?_) | (with_reducible refine Cells7.far ?_ ?_ _; rotate_left 1; (first | (dsimp only; omega) | omega | (simp; omega) | simp)) | (with_reducible refine Cells7.keep ?_ hb7) | exact ML)))) ((go_at_call 36; go_must (refine (refShaped_any v.B l.B _ _ _ _ _ _ _).mono ?_); (try rw [K1.out]); go_must (rintro e w7 ⟨rfl, hb7⟩)))
                    have ML' : Cells7 w7 b0 (o0 + t * 7) (.int .i64 l.kind) (.int .i64 l.W.rows) (.int .i64 l.W.cols) (.slice a3 n3 k3) (.int .i64 l.B.rows) (.int .i64 l.B.cols) (.slice a4 n4 k4) := (by repeat (first | fail | (with_reducible exact ML) | (with_reducible refine Cells7.alloc ?_ _) | (with_reducible refine Cells7.drewN ?_ _) | (with_reducible refine Cells7.drew ?_) | (with_reducible refine Cells7.far ?_ ?_ _; rotate_left 1; (first | (dsimp only; omega) | omega | (simp; omega) | simp)) | (with_reducible refine Cells7.keep ?_ hb7) | exact ML))
                    have MV' : Cells6 w7 b1 (o1 + t * 6) (.int .i64 v.W.rows) (.int .i64 v.W.cols) (.slice a5 n5 k5) (.int .i64 v.B.rows) (.int .i64 v.B.cols) (.slice a6 n6 k6) := (by repeat (first | fail | (with_reducible exact MV) | (with_reducible refine Cells6.alloc ?_ _) | (with_reducible refine Cells6.drewN ?_ _) | (with_reducible refine Cells6.drew ?_) | (with_reducible refine Cells6.far ?_ ?_ _; rotate_left 1; (first | (dsimp only; omega) | omega | (simp; omega) | simp)) | (with_reducible refine Cells6.keep ?_ hb7) | exact MV))
                    have MD' : Cells6 w7 b2 (o2 + t * 6) (.int .i64 d.W.rows) (.int .i64 d.W.cols) (.slice a7 n7 k7) (.int .i64 d.B.rows) (.int .i64 d.B.cols) (.slice a8 n8 k8) := (by repeat (first | fail | (with_reducible exact MD) | (with_reducible refine Cells6.alloc ?_ _) | (with_reducible refine Cells6.drewN ?_ _) | (with_reducible refine Cells6.drew ?_) | (with_reducible refine Cells6.far ?_ ?_ _; rotate_left 1; (first | (dsimp only; omega) | omega | (simp; omega) | simp)) | (with_reducible refine Cells6.keep ?_ hb7) | exact MD))
                    clear ML MV MD
                    have ML := ML'
                    have MV := MV'
                    have MD := MD'
                    clear ML' MV' MD'
                    go_wp2_with fail
                    go_region_held3 (fun w' => w'.cell? ⟨b2, o2 + t * 6, none⟩ = some (.int .i64 d.W.rows) ∧ w'.cell? ⟨b2, o2 + t * 6 + 1, none⟩ = some (.int .i64 d.W.cols) ∧ w'.cell? ⟨b2, o2 + t * 6 + 2, none⟩ = some (.slice a7 n7 k7) ∧ w'.cell? ⟨b0, o0 + t * 7 + 1, none⟩ = some (.int .i64 l.W.rows) ∧ w'.cell? ⟨b0, o0 + t * 7 + 2, none⟩ = some (.int .i64 l.W.cols) ∧ w'.cell? ⟨b0, o0 + t * 7 + 3, none⟩ = some (.slice a3 n3 k3)) (exact cells_w3 (show Cells6 _ b2 (o2 + t * 6) (.int .i64 d.W.rows) (.int .i64 d.W.cols) (.slice a7 n7 k7) (.int .i64 d.B.rows) (.int .i64 d.B.cols) (.slice a8 n8 k8) from (by repeat (first | fail | (with_reducible exact MD) | (with_reducible refine Cells6.alloc ?_ _) | (with_reducible refine Cells6.drewN ?_ _) | (with_reducible refine Cells6.drew ?_) | (with_reducible refine Cells6.far ?_ ?_ _; rotate_left 1; (first | (dsimp only; omega) | omega | (simp; omega) | simp)) | (with_reducible refine Cells6.keep ?_ hb8) | exact MD))) (show Cells7 _ b0 (o0 + t * 7) (.int .i64 l.kind) (.int .i64 l.W.rows) (.int .i64 l.W.cols) (.slice a3 n3 k3) (.int .i64 l.B.rows) (.int .i64 l.B.cols) (.slice a4 n4 k4) from (by repeat (first | fail | (with_reducible exact ML) | (with_reducible refine Cells7.alloc ?_ _) | (with_reducible refine Cells7.drewN ?_ _) | (with_reducible refine Cells7.drew ?_) | (with_reducible refine Cells7.far ?_ ?_ _; rotate_left 1; (first | (dsimp only; omega) | omega | (simp; omega) | simp)) | (with_reducible refine Cells7.keep ?_ hb8) | exact ML)))) ((go_at_call 36; go_must (refine (refShaped_any d.W l.W _ _ _ _ _ _ _).mono ?_); (try rw [K2.out]); go_must (rintro e w8 ⟨rfl, hb8⟩)))
                    have ML' : Cells7 w8 b0 (o0 + t * 7) (.int .i64 l.kind) (.int .i64 l.W.rows) (.int .i64 l.W.cols) (.slice a3 n3 k3) (.int .i64 l.B.rows) (.int .i64 l.B.cols) (.slice a4 n4 k4) := (by repeat (first | fail | (with_reducible exact ML) | (with_reducible refine Cells7.alloc ?_ _) | (with_reducible refine Cells7.drewN ?_ _) | (with_reducible refine Cells7.drew ?_) | (with_reducible refine Cells7.far ?_ ?_ _; rotate_left 1; (first | (dsimp only; omega) | omega | (simp; omega) | simp)) | (with_reducible refine Cells7.keep ?_ hb8) | exact ML))
                    have MV' : Cells6 w8 b1 (o1 + t * 6) (.int .i64 v.W.rows) (.int .i64 v.W.cols) (.slice a5 n5 k5) (.int .i64 v.B.rows) (.int .i64 v.B.cols) (.slice a6 n6 k6) := (by repeat (first | fail | (with_reducible exact MV) | (with_reducible refine Cells6.alloc ?_ _) | (with_reducible refine Cells6.drewN ?_ _) | (with_reducible refine Cells6.drew ?_) | (with_reducible refine Cells6.far ?_ ?_ _; rotate_left 1; (first | (dsimp only; omega) | omega | (simp; omega) | simp)) | (with_reducible refine Cells6.keep ?_ hb8) | exact MV))
                    have MD' : Cells6 w8 b2 (o2 + t * 6) (.int .i64 d.W.rows) (.int .i64 d.W.cols) (.slice a7 n7 k7) (.int .i64 d.B.rows) (.int .i64 d.B.cols) (.slice a8 n8 k8) := (by repeat (first | fail | (with_reducible exact MD) | (with_reducible refine Cells6.alloc ?_ _) | (with_reducible refine Cells6.drewN ?_ _) | (with_reducible refine Cells6.drew ?_) | (with_reducible refine Cells6.far ?_ ?_ _; rotate_left 1; (first | (dsimp only; omega) | omega | (simp; omega) | simp)) | (with_reducible refine Cells6.keep ?_ hb8) | exact MD))
                    clear ML MV MD
                    have ML := ML'
                    have MV := MV'
                    have MD := MD'
                    clear ML' MV' MD'
                    go_wp2_with fail
                    go_region_held3 (fun w' => w'.cell? ⟨b2, o2 + t * 6 + 3, none⟩ = some (.int .i64 d.B.rows) ∧ w'.cell? ⟨b2, o2 + t * 6 + 4, none⟩ = some (.int .i64 d.B.cols) ∧ w'.cell? ⟨b2, o2 + t * 6 + 5, none⟩ = some (.slice a8 n8 k8) ∧ w'.cell? ⟨b0, o0 + t * 7 + 4, none⟩ = some (.int .i64 l.B.rows) ∧ w'.cell? ⟨b0, o0 + t * 7 + 5, none⟩ = some (.int .i64 l.B.cols) ∧ w'.cell? ⟨b0, o0 + t * 7 + 6, none⟩ = some (.slice a4 n4 k4)) (exact cells_b3 (show Cells6 _ b2 (o2 + t * 6) (.int .i64 d.W.rows) (.int .i64 d.W.cols) (.slice a7 n7 k7) (.int .i64 d.B.rows) (.int .i64 d.B.cols) (.slice a8 n8 k8) from (by repeat (first | fail | (with_reducible exact MD) | (with_reducible refine Cells6.alloc ?_ _) | (with_reducible refine Cells6.drewN ?_ _) | (with_reducible refine Cells6.drew ?_) | (with_reducible refine Cells6.far ?_ ?_ _; rotate_left 1; (first | (dsimp only; omega) | omega | (simp; omega) | simp)) | (with_reducible refine Cells6.keep ?_ hb9) | exact MD))) (show Cells7 _ b0 (o0 + t * 7) (.int .i64 l.kind) (.int .i64 l.W.rows) (.int .i64 l.W.cols) (.slice a3 n3 k3) (.int .i64 l.B.rows) (.int .i64 l.B.cols) (.slice a4 n4 k4) from (by repeat (first | fail | (with_reducible exact ML) | (with_reducible refine Cells7.alloc ?_ _) | (with_reducible refine Cells7.drewN ?_ _) | (with_reducible refine Cells7.drew ?_) | (with_reducible refine Cells7.far ?_ ?_ _; rotate_left 1; (first | (dsimp only; omega) | omega | (simp; omega) | simp)) | (with_reducible refine Cells7.keep ?_ hb9) | exact ML)))) ((go_at_call 36; go_must (refine (refShaped_any d.B l.B _ _ _ _ _ _ _).mono ?_); (try rw [K3.out]); go_must (rintro e w9 ⟨rfl, hb9⟩)))
                    have hbe : Below w.heap.size w w9 := (by repeat (first | fail | (with_reducible exact Below.refl _ _) | (with_reducible exact hbr) | (with_reducible refine Below.al ?_ _) | (with_reducible refine Below.drN ?_ _) | (with_reducible refine Below.drew ?_) | (with_reducible refine Below.st ?_ ?_ _; rotate_left 1; (first | (dsimp only; omega) | omega | (simp; omega) | simp)) | (with_reducible refine Below.go ?_ hb9) | (with_reducible refine Below.go ?_ hb8) | (with_reducible refine Below.go ?_ hb7) | (with_reducible refine Below.go ?_ hb6) | (with_reducible refine Below.go ?_ hb5) | (with_reducible refine Below.go ?_ hb4) | (with_reducible refine Below.go ?_ hb3) | (with_reducible refine Below.go ?_ hb2) | (with_reducible refine Below.go ?_ hb1) | exact Below.refl _ _ | exact hbr))
                    clear ML MV MD x3 x4 x5 x6 x7 x8
                    go_wp2
                    go_ret
                    exact ⟨(by rw [HST.out]; try rfl), (by repeat (first | fail | (with_reducible exact Below.refl _ _) | (with_reducible exact hbe) | (with_reducible refine Below.al ?_ _) | (with_reducible refine Below.drN ?_ _) | (with_reducible refine Below.drew ?_) | (with_reducible refine Below.st ?_ ?_ _; rotate_left 1; (first | (dsimp only; omega) | omega | (simp; omega) | simp)) | exact Below.refl _ _ | exact hbe))⟩

                · have K0 : Hid (decide (likeShape v.W l.W) = false) := Lib.hid (decide_eq_false s0)
                  have HFI : Hid (fitsFault l v d = 2) := Lib.hid (by unfold fitsFault; rw [if_neg (by simp [H0.out]), if_neg (by simp [H1.out]), if_neg (by simp [H2.out]), if_neg (by simp [H3.out]), if_neg (by simp [H4.out]), if_neg (by rintro ⟨q0, q1, q2, q3⟩; exact s0 q0)])
                  have HST : Hid (stepFault ls vs ds ln kp = 2) := Lib.hid (by rw [HF.out, step_stop (f := 2) HT.out hlt (by rw [← HX.out.1, ← HX.out.2.1, ← HX.out.2.2]; exact HFI.out) (by decide)])
                  clear s0
                  have e0 := ML.c0
                  have e1 := ML.c1
                  have e2 := ML.c2
                  have e3 := ML.c3
                  have e4 := ML.c4
                  have e5 := ML.c5
                  have e6 := ML.c6
                  go_wp2_with fail
                  refine (refLayerFault_any l _ _ ⟨a3, n3, k3, b3, o3, a4, n4, k4, b4, o4, rfl, x3, x4⟩).mono ?_
                  rw [H0.out]
                  rintro e w1 ⟨rfl, hb1⟩
                  clear e0 e1 e2 e3 e4 e5 e6
                  replace ML := ML.keep hb1
                  replace MV := MV.keep hb1
                  replace MD := MD.keep hb1
                  replace x3 := x3.keep hb1
                  replace x4 := x4.keep hb1
                  replace x5 := x5.keep hb1
                  replace x6 := x6.keep hb1
                  replace x7 := x7.keep hb1
                  replace x8 := x8.keep hb1
                  have e0 := MV.c0
                  have e1 := MV.c1
                  have e2 := MV.c2
                  go_wp2_with fail
                  refine (refMatFault_any v.W _ _ (MatAt.mk (show IntsAt _ a5 n5 k5 b5 o5 v.W.cells from x5))).mono ?_
                  rw [H1.out]
                  rintro e w2 ⟨rfl, hb2⟩
                  clear e0 e1 e2
                  replace ML := ML.keep hb2
                  replace MV := MV.keep hb2
                  replace MD := MD.keep hb2
                  replace x3 := x3.keep hb2
                  replace x4 := x4.keep hb2
                  replace x5 := x5.keep hb2
                  replace x6 := x6.keep hb2
                  replace x7 := x7.keep hb2
                  replace x8 := x8.keep hb2
                  have e0 := MV.c3
                  have e1 := MV.c4
                  have e2 := MV.c5
                  go_wp2_with fail
                  refine (refMatFault_any v.B _ _ (MatAt.mk (show IntsAt _ a6 n6 k6 b6 o6 v.B.cells from x6))).mono ?_
                  rw [H2.out]
                  rintro e w3 ⟨rfl, hb3⟩
                  clear e0 e1 e2
                  replace ML := ML.keep hb3
                  replace MV := MV.keep hb3
                  replace MD := MD.keep hb3
                  replace x3 := x3.keep hb3
                  replace x4 := x4.keep hb3
                  replace x5 := x5.keep hb3
                  replace x6 := x6.keep hb3
                  replace x7 := x7.keep hb3
                  replace x8 := x8.keep hb3
                  have e0 := MD.c0
                  have e1 := MD.c1
                  have e2 := MD.c2
                  go_wp2_with fail
                  refine (refMatFault_any d.W _ _ (MatAt.mk (show IntsAt _ a7 n7 k7 b7 o7 d.W.cells from x7))).mono ?_
                  rw [H3.out]
                  rintro e w4 ⟨rfl, hb4⟩
                  clear e0 e1 e2
                  replace ML := ML.keep hb4
                  replace MV := MV.keep hb4
                  replace MD := MD.keep hb4
                  replace x3 := x3.keep hb4
                  replace x4 := x4.keep hb4
                  replace x5 := x5.keep hb4
                  replace x6 := x6.keep hb4
                  replace x7 := x7.keep hb4
                  replace x8 := x8.keep hb4
                  have e0 := MD.c3
                  have e1 := MD.c4
                  have e2 := MD.c5
                  go_wp2_with fail
                  refine (refMatFault_any d.B _ _ (MatAt.mk (show IntsAt _ a8 n8 k8 b8 o8 d.B.cells from x8))).mono ?_
                  rw [H4.out]
                  rintro e w5 ⟨rfl, hb5⟩
                  clear e0 e1 e2
                  replace ML := ML.keep hb5
                  replace MV := MV.keep hb5
                  replace MD := MD.keep hb5
                  replace x3 := x3.keep hb5
                  replace x4 := x4.keep hb5
                  replace x5 := x5.keep hb5
                  replace x6 := x6.keep hb5
                  replace x7 := x7.keep hb5
                  replace x8 := x8.keep hb5
                  go_wp2_with fail
                  go_region_held3 (fun w' => w'.cell? ⟨b1, o1 + t * 6, none⟩ = some (.int .i64 v.W.rows) ∧ w'.cell? ⟨b1, o1 + t * 6 + 1, none⟩ = some (.int .i64 v.W.cols) ∧ w'.cell? ⟨b1, o1 + t * 6 + 2, none⟩ = some (.slice a5 n5 k5) ∧ w'.cell? ⟨b0, o0 + t * 7 + 1, none⟩ = some (.int .i64 l.W.rows) ∧ w'.cell? ⟨b0, o0 + t * 7 + 2, none⟩ = some (.int .i64 l.W.cols) ∧ w'.cell? ⟨b0, o0 + t * 7 + 3, none⟩ = some (.slice a3 n3 k3)) (exact cells_w3 (show Cells6 _ b1 (o1 + t * 6) (.int .i64 v.W.rows) (.int .i64 v.W.cols) (.slice a5 n5 k5) (.int .i64 v.B.rows) (.int .i64 v.B.cols) (.slice a6 n6 k6) from (by repeat (first | fail | (with_reducible exact MV) | (with_reducible refine Cells6.alloc ?_ _) | (with_reducible refine Cells6.drewN ?_ _) | (with_reducible refine Cells6.drew ?_) | (with_reducible refine Cells6.far ?_ ?_ _; rotate_left 1; (first | (dsimp only; omega) | omega | (simp; omega) | simp)) | (with_reducible refine Cells6.keep ?_ hb6) | exact MV))) (show Cells7 _ b0 (o0 + t * 7) (.int .i64 l.kind) (.int .i64 l.W.rows) (.int .i64 l.W.cols) (.slice a3 n3 k3) (.int .i64 l.B.rows) (.int .i64 l.B.cols) (.slice a4 n4 k4) from (by repeat (first | fail | (with_reducible exact ML) | (with_reducible refine Cells7.alloc ?_ _) | (with_reducible refine Cells7.drewN ?_ _) | (with_reducible refine Cells7.drew ?_) | (with_reducible refine Cells7.far ?_ ?_ _; rotate_left 1; (first | (dsimp only; omega) | omega | (simp; omega) | simp)) | (with_reducible refine Cells7.keep ?_ hb6) | exact ML)))) ((go_at_call 36; go_must (refine (refShaped_any v.W l.W _ _ _ _ _ _ _).mono ?_); (try rw [K0.out]); go_must (rintro e w6 ⟨rfl, hb6⟩)))
                  have ML' : Cells7 w6 b0 (o0 + t * 7) (.int .i64 l.kind) (.int .i64 l.W.rows) (.int .i64 l.W.cols) (.slice a3 n3 k3) (.int .i64 l.B.rows) (.int .i64 l.B.cols) (.slice a4 n4 k4) := (by repeat (first | fail | (with_reducible exact ML) | (with_reducible refine Cells7.alloc ?_ _) | (with_reducible refine Cells7.drewN ?_ _) | (with_reducible refine Cells7.drew ?_) | (with_reducible refine Cells7.far ?_ ?_ _; rotate_left 1; (first | (dsimp only; omega) | omega | (simp; omega) | simp)) | (with_reducible refine Cells7.keep ?_ hb6) | exact ML))
                  have MV' : Cells6 w6 b1 (o1 + t * 6) (.int .i64 v.W.rows) (.int .i64 v.W.cols) (.slice a5 n5 k5) (.int .i64 v.B.rows) (.int .i64 v.B.cols) (.slice a6 n6 k6) := (by repeat (first | fail | (with_reducible exact MV) | (with_reducible refine Cells6.alloc ?_ _) | (with_reducible refine Cells6.drewN ?_ _) | (with_reducible refine Cells6.drew ?_) | (with_reducible refine Cells6.far ?_ ?_ _; rotate_left 1; (first | (dsimp only; omega) | omega | (simp; omega) | simp)) | (with_reducible refine Cells6.keep ?_ hb6) | exact MV))
                  have MD' : Cells6 w6 b2 (o2 + t * 6) (.int .i64 d.W.rows) (.int .i64 d.W.cols) (.slice a7 n7 k7) (.int .i64 d.B.rows) (.int .i64 d.B.cols) (.slice a8 n8 k8) := (by repeat (first | fail | (with_reducible exact MD) | (with_reducible refine Cells6.alloc ?_ _) | (with_reducible refine Cells6.drewN ?_ _) | (with_reducible refine Cells6.drew ?_) | (with_reducible refine Cells6.far ?_ ?_ _; rotate_left 1; (first | (dsimp only; omega) | omega | (simp; omega) | simp)) | (with_reducible refine Cells6.keep ?_ hb6) | exact MD))
                  clear ML MV MD
                  have ML := ML'
                  have MV := MV'
                  have MD := MD'
                  clear ML' MV' MD'
                  go_wp2_with fail
                  go_region_held3 (fun w' => w'.cell? ⟨b1, o1 + t * 6 + 3, none⟩ = some (.int .i64 v.B.rows) ∧ w'.cell? ⟨b1, o1 + t * 6 + 4, none⟩ = some (.int .i64 v.B.cols) ∧ w'.cell? ⟨b1, o1 + t * 6 + 5, none⟩ = some (.slice a6 n6 k6) ∧ w'.cell? ⟨b0, o0 + t * 7 + 4, none⟩ = some (.int .i64 l.B.rows) ∧ w'.cell? ⟨b0, o0 + t * 7 + 5, none⟩ = some (.int .i64 l.B.cols) ∧ w'.cell? ⟨b0, o0 + t * 7 + 6, none⟩ = some (.slice a4 n4 k4)) (exact cells_b3 (show Cells6 _ b1 (o1 + t * 6) (.int .i64 v.W.rows) (.int .i64 v.W.cols) (.slice a5 n5 k5) (.int .i64 v.B.rows) (.int .i64 v.B.cols) (.slice a6 n6 k6) from (by repeat (first | fail | (with_reducible exact MV) | (with_reducible refine Cells6.alloc ?_ _) | (with_reducible refine Cells6.drewN ?_ _) | (with_reducible refine Cells6.drew ?_) | (with_reducible refine Cells6.far ?_ ?_ _; rotate_left 1; (first | (dsimp only; omega) | omega | (simp; omega) | simp)) | (with_reducible refine Cells6.keep ?_ hb7) | exact MV))) (show Cells7 _ b0 (o0 + t * 7) (.int .i64 l.kind) (.int .i64 l.W.rows) (.int .i64 l.W.cols) (.slice a3 n3 k3) (.int .i64 l.B.rows) (.int .i64 l.B.cols) (.slice a4 n4 k4) from (by repeat (first | fail | (with_reducible exact ML) | (with_reducible refine Cells7.alloc ?_ _) | (with_reducible refine Cells7.drewN ?_ _) | (with_reducible refine Cells7.drew ?_) | (with_reducible refine Cells7.far ?_ ?_ _; rotate_left 1; (first | (dsimp only; omega) | omega | (simp; omega) | simp)) | (with_reducible refine Cells7.keep ?_ hb7) | exact ML)))) ((go_at_call 36; go_must (refine (refShaped_any v.B l.B _ _ _ _ _ _ _).mono ?_); (try rw [K1.out]); go_must (rintro e w7 ⟨rfl, hb7⟩)))
                  have ML' : Cells7 w7 b0 (o0 + t * 7) (.int .i64 l.kind) (.int .i64 l.W.rows) (.int .i64 l.W.cols) (.slice a3 n3 k3) (.int .i64 l.B.rows) (.int .i64 l.B.cols) (.slice a4 n4 k4) := (by repeat (first | fail | (with_reducible exact ML) | (with_reducible refine Cells7.alloc ?_ _) | (with_reducible refine Cells7.drewN ?_ _) | (with_reducible refine Cells7.drew ?_) | (with_reducible refine Cells7.far ?_ ?_ _; rotate_left 1; (first | (dsimp only; omega) | omega | (simp; omega) | simp)) | (with_reducible refine Cells7.keep ?_ hb7) | exact ML))
                  have MV' : Cells6 w7 b1 (o1 + t * 6) (.int .i64 v.W.rows) (.int .i64 v.W.cols) (.slice a5 n5 k5) (.int .i64 v.B.rows) (.int .i64 v.B.cols) (.slice a6 n6 k6) := (by repeat (first | fail | (with_reducible exact MV) | (with_reducible refine Cells6.alloc ?_ _) | (with_reducible refine Cells6.drewN ?_ _) | (with_reducible refine Cells6.drew ?_) | (with_reducible refine Cells6.far ?_ ?_ _; rotate_left 1; (first | (dsimp only; omega) | omega | (simp; omega) | simp)) | (with_reducible refine Cells6.keep ?_ hb7) | exact MV))
                  have MD' : Cells6 w7 b2 (o2 + t * 6) (.int .i64 d.W.rows) (.int .i64 d.W.cols) (.slice a7 n7 k7) (.int .i64 d.B.rows) (.int .i64 d.B.cols) (.slice a8 n8 k8) := (by repeat (first | fail | (with_reducible exact MD) | (with_reducible refine Cells6.alloc ?_ _) | (with_reducible refine Cells6.drewN ?_ _) | (with_reducible refine Cells6.drew ?_) | (with_reducible refine Cells6.far ?_ ?_ _; rotate_left 1; (first | (dsimp only; omega) | omega | (simp; omega) | simp)) | (with_reducible refine Cells6.keep ?_ hb7) | exact MD))
                  clear ML MV MD
                  have ML := ML'
                  have MV := MV'
                  have MD := MD'
                  clear ML' MV' MD'
                  go_wp2_with fail
                  go_region_held3 (fun w' => w'.cell? ⟨b2, o2 + t * 6, none⟩ = some (.int .i64 d.W.rows) ∧ w'.cell? ⟨b2, o2 + t * 6 + 1, none⟩ = some (.int .i64 d.W.cols) ∧ w'.cell? ⟨b2, o2 + t * 6 + 2, none⟩ = some (.slice a7 n7 k7) ∧ w'.cell? ⟨b0, o0 + t * 7 + 1, none⟩ = some (.int .i64 l.W.rows) ∧ w'.cell? ⟨b0, o0 + t * 7 + 2, none⟩ = some (.int .i64 l.W.cols) ∧ w'.cell? ⟨b0, o0 + t * 7 + 3, none⟩ = some (.slice a3 n3 k3)) (exact cells_w3 (show Cells6 _ b2 (o2 + t * 6) (.int .i64 d.W.rows) (.int .i64 d.W.cols) (.slice a7 n7 k7) (.int .i64 d.B.rows) (.int .i64 d.B.cols) (.slice a8 n8 k8) from (by repeat (first | fail | (with_reducible exact MD) | (with_reducible refine Cells6.alloc ?_ _) | (with_reducible refine Cells6.drewN ?_ _) | (with_reducible refine Cells6.drew ?_) | (with_reducible refine Cells6.far ?_ ?_ _; rotate_left 1; (first | (dsimp only; omega) | omega | (simp; omega) | simp)) | (with_reducible refine Cells6.keep ?_ hb8) | exact MD))) (show Cells7 _ b0 (o0 + t * 7) (.int .i64 l.kind) (.int .i64 l.W.rows) (.int .i64 l.W.cols) (.slice a3 n3 k3) (.int .i64 l.B.rows) (.int .i64 l.B.cols) (.slice a4 n4 k4) from (by repeat (first | fail | (with_reducible exact ML) | (with_reducible refine Cells7.alloc ?_ _) | (with_reducible refine Cells7.drewN ?_ _) | (with_reducible refine Cells7.drew ?_) | (with_reducible refine Cells7.far ?_ ?_ _; rotate_left 1; (first | (dsimp only; omega) | omega | (simp; omega) | simp)) | (with_reducible refine Cells7.keep ?_ hb8) | exact ML)))) ((go_at_call 36; go_must (refine (refShaped_any d.W l.W _ _ _ _ _ _ _).mono ?_); (try rw [K2.out]); go_must (rintro e w8 ⟨rfl, hb8⟩)))
                  have ML' : Cells7 w8 b0 (o0 + t * 7) (.int .i64 l.kind) (.int .i64 l.W.rows) (.int .i64 l.W.cols) (.slice a3 n3 k3) (.int .i64 l.B.rows) (.int .i64 l.B.cols) (.slice a4 n4 k4) := (by repeat (first | fail | (with_reducible exact ML) | (with_reducible refine Cells7.alloc ?_ _) | (with_reducible refine Cells7.drewN ?_ _) | (with_reducible refine Cells7.drew ?_) | (with_reducible refine Cells7.far ?_ ?_ _; rotate_left 1; (first | (dsimp only; omega) | omega | (simp; omega) | simp)) | (with_reducible refine Cells7.keep ?_ hb8) | exact ML))
                  have MV' : Cells6 w8 b1 (o1 + t * 6) (.int .i64 v.W.rows) (.int .i64 v.W.cols) (.slice a5 n5 k5) (.int .i64 v.B.rows) (.int .i64 v.B.cols) (.slice a6 n6 k6) := (by repeat (first | fail | (with_reducible exact MV) | (with_reducible refine Cells6.alloc ?_ _) | (with_reducible refine Cells6.drewN ?_ _) | (with_reducible refine Cells6.drew ?_) | (with_reducible refine Cells6.far ?_ ?_ _; rotate_left 1; (first | (dsimp only; omega) | omega | (simp; omega) | simp)) | (with_reducible refine Cells6.keep ?_ hb8) | exact MV))
                  have MD' : Cells6 w8 b2 (o2 + t * 6) (.int .i64 d.W.rows) (.int .i64 d.W.cols) (.slice a7 n7 k7) (.int .i64 d.B.rows) (.int .i64 d.B.cols) (.slice a8 n8 k8) := (by repeat (first | fail | (with_reducible exact MD) | (with_reducible refine Cells6.alloc ?_ _) | (with_reducible refine Cells6.drewN ?_ _) | (with_reducible refine Cells6.drew ?_) | (with_reducible refine Cells6.far ?_ ?_ _; rotate_left 1; (first | (dsimp only; omega) | omega | (simp; omega) | simp)) | (with_reducible refine Cells6.keep ?_ hb8) | exact MD))
                  clear ML MV MD
                  have ML := ML'
                  have MV := MV'
                  have MD := MD'
                  clear ML' MV' MD'
                  go_wp2_with fail
                  go_region_held3 (fun w' => w'.cell? ⟨b2, o2 + t * 6 + 3, none⟩ = some (.int .i64 d.B.rows) ∧ w'.cell? ⟨b2, o2 + t * 6 + 4, none⟩ = some (.int .i64 d.B.cols) ∧ w'.cell? ⟨b2, o2 + t * 6 + 5, none⟩ = some (.slice a8 n8 k8) ∧ w'.cell? ⟨b0, o0 + t * 7 + 4, none⟩ = some (.int .i64 l.B.rows) ∧ w'.cell? ⟨b0, o0 + t * 7 + 5, none⟩ = some (.int .i64 l.B.cols) ∧ w'.cell? ⟨b0, o0 + t * 7 + 6, none⟩ = some (.slice a4 n4 k4)) (exact cells_b3 (show Cells6 _ b2 (o2 + t * 6) (.int .i64 d.W.rows) (.int .i64 d.W.cols) (.slice a7 n7 k7) (.int .i64 d.B.rows) (.int .i64 d.B.cols) (.slice a8 n8 k8) from (by repeat (first | fail | (with_reducible exact MD) | (with_reducible refine Cells6.alloc ?_ _) | (with_reducible refine Cells6.drewN ?_ _) | (with_reducible refine Cells6.drew ?_) | (with_reducible refine Cells6.far ?_ ?_ _; rotate_left 1; (first | (dsimp only; omega) | omega | (simp; omega) | simp)) | (with_reducible refine Cells6.keep ?_ hb9) | exact MD))) (show Cells7 _ b0 (o0 + t * 7) (.int .i64 l.kind) (.int .i64 l.W.rows) (.int .i64 l.W.cols) (.slice a3 n3 k3) (.int .i64 l.B.rows) (.int .i64 l.B.cols) (.slice a4 n4 k4) from (by repeat (first | fail | (with_reducible exact ML) | (with_reducible refine Cells7.alloc ?_ _) | (with_reducible refine Cells7.drewN ?_ _) | (with_reducible refine Cells7.drew ?_) | (with_reducible refine Cells7.far ?_ ?_ _; rotate_left 1; (first | (dsimp only; omega) | omega | (simp; omega) | simp)) | (with_reducible refine Cells7.keep ?_ hb9) | exact ML)))) ((go_at_call 36; go_must (refine (refShaped_any d.B l.B _ _ _ _ _ _ _).mono ?_); (try rw [K3.out]); go_must (rintro e w9 ⟨rfl, hb9⟩)))
                  have hbe : Below w.heap.size w w9 := (by repeat (first | fail | (with_reducible exact Below.refl _ _) | (with_reducible exact hbr) | (with_reducible refine Below.al ?_ _) | (with_reducible refine Below.drN ?_ _) | (with_reducible refine Below.drew ?_) | (with_reducible refine Below.st ?_ ?_ _; rotate_left 1; (first | (dsimp only; omega) | omega | (simp; omega) | simp)) | (with_reducible refine Below.go ?_ hb9) | (with_reducible refine Below.go ?_ hb8) | (with_reducible refine Below.go ?_ hb7) | (with_reducible refine Below.go ?_ hb6) | (with_reducible refine Below.go ?_ hb5) | (with_reducible refine Below.go ?_ hb4) | (with_reducible refine Below.go ?_ hb3) | (with_reducible refine Below.go ?_ hb2) | (with_reducible refine Below.go ?_ hb1) | exact Below.refl _ _ | exact hbr))
                  clear ML MV MD x3 x4 x5 x6 x7 x8
                  go_wp2
                  go_ret
                  exact ⟨(by rw [HST.out]; try rfl), (by repeat (first | fail | (with_reducible exact Below.refl _ _) | (with_reducible exact hbe) | (with_reducible refine Below.al ?_ _) | (with_reducible refine Below.drN ?_ _) | (with_reducible refine Below.drew ?_) | (with_reducible refine Below.st ?_ ?_ _; rotate_left 1; (first | (dsimp only; omega) | omega | (simp; omega) | simp)) | exact Below.refl _ _ | exact hbe))⟩


              · have HFI : Hid (fitsFault l v d = d.B.fault) := Lib.hid (by unfold fitsFault; rw [if_neg (by simp [H0.out]), if_neg (by simp [H1.out]), if_neg (by simp [H2.out]), if_neg (by simp [H3.out]), if_pos f4])
                have HST : Hid (stepFault ls vs ds ln kp = d.B.fault) := Lib.hid (by rw [HF.out, step_stop (f := d.B.fault) HT.out hlt (by rw [← HX.out.1, ← HX.out.2.1, ← HX.out.2.2]; exact HFI.out) f4])
                have g1 : (d.B.fault == 0) = false := by simp [f4]
                have g2 : (d.B.fault != 0) = true := by simp [f4]
                clear f4
                have e0 := ML.c0
                have e1 := ML.c1
                have e2 := ML.c2
                have e3 := ML.c3
                have e4 := ML.c4
                have e5 := ML.c5
                have e6 := ML.c6
                go_wp2_with fail
                refine (refLayerFault_any l _ _ ⟨a3, n3, k3, b3, o3, a4, n4, k4, b4, o4, rfl, x3, x4⟩).mono ?_
                rw [H0.out]
                rintro e w1 ⟨rfl, hb1⟩
                clear e0 e1 e2 e3 e4 e5 e6
                replace ML := ML.keep hb1
                replace MV := MV.keep hb1
                replace MD := MD.keep hb1
                replace x3 := x3.keep hb1
                replace x4 := x4.keep hb1
                replace x5 := x5.keep hb1
                replace x6 := x6.keep hb1
                replace x7 := x7.keep hb1
                replace x8 := x8.keep hb1
                have e0 := MV.c0
                have e1 := MV.c1
                have e2 := MV.c2
                go_wp2_with fail
                refine (refMatFault_any v.W _ _ (MatAt.mk (show IntsAt _ a5 n5 k5 b5 o5 v.W.cells from x5))).mono ?_
                rw [H1.out]
                rintro e w2 ⟨rfl, hb2⟩
                clear e0 e1 e2
                replace ML := ML.keep hb2
                replace MV := MV.keep hb2
                replace MD := MD.keep hb2
                replace x3 := x3.keep hb2
                replace x4 := x4.keep hb2
                replace x5 := x5.keep hb2
                replace x6 := x6.keep hb2
                replace x7 := x7.keep hb2
                replace x8 := x8.keep hb2
                have e0 := MV.c3
                have e1 := MV.c4
                have e2 := MV.c5
                go_wp2_with fail
                refine (refMatFault_any v.B _ _ (MatAt.mk (show IntsAt _ a6 n6 k6 b6 o6 v.B.cells from x6))).mono ?_
                rw [H2.out]
                rintro e w3 ⟨rfl, hb3⟩
                clear e0 e1 e2
                replace ML := ML.keep hb3
                replace MV := MV.keep hb3
                replace MD := MD.keep hb3
                replace x3 := x3.keep hb3
                replace x4 := x4.keep hb3
                replace x5 := x5.keep hb3
                replace x6 := x6.keep hb3
                replace x7 := x7.keep hb3
                replace x8 := x8.keep hb3
                have e0 := MD.c0
                have e1 := MD.c1
                have e2 := MD.c2
                go_wp2_with fail
                refine (refMatFault_any d.W _ _ (MatAt.mk (show IntsAt _ a7 n7 k7 b7 o7 d.W.cells from x7))).mono ?_
                rw [H3.out]
                rintro e w4 ⟨rfl, hb4⟩
                clear e0 e1 e2
                replace ML := ML.keep hb4
                replace MV := MV.keep hb4
                replace MD := MD.keep hb4
                replace x3 := x3.keep hb4
                replace x4 := x4.keep hb4
                replace x5 := x5.keep hb4
                replace x6 := x6.keep hb4
                replace x7 := x7.keep hb4
                replace x8 := x8.keep hb4
                have e0 := MD.c3
                have e1 := MD.c4
                have e2 := MD.c5
                go_wp2_with fail
                refine (refMatFault_any d.B _ _ (MatAt.mk (show IntsAt _ a8 n8 k8 b8 o8 d.B.cells from x8))).mono ?_
                rintro e w5 ⟨rfl, hb5⟩
                clear e0 e1 e2
                replace ML := ML.keep hb5
                replace MV := MV.keep hb5
                replace MD := MD.keep hb5
                replace x3 := x3.keep hb5
                replace x4 := x4.keep hb5
                replace x5 := x5.keep hb5
                replace x6 := x6.keep hb5
                replace x7 := x7.keep hb5
                replace x8 := x8.keep hb5
                have hbe : Below w.heap.size w w5 := (by repeat (first | fail | (with_reducible exact Below.refl _ _) | (with_reducible exact hbr) | (with_reducible refine Below.al ?_ _) | (with_reducible refine Below.drN ?_ _) | (with_reducible refine Below.drew ?_) | (with_reducible refine Below.st ?_ ?_ _; rotate_left 1; (first | (dsimp only; omega) | omega | (simp; omega) | simp)) | (with_reducible refine Below.go ?_ hb5) | (with_reducible refine Below.go ?_ hb4) | (with_reducible refine Below.go ?_ hb3) | (with_reducible refine Below.go ?_ hb2) | (with_reducible refine Below.go ?_ hb1) | exact Below.refl _ _ | exact hbr))
                clear ML MV MD x3 x4 x5 x6 x7 x8
                go_wp2
                go_ret
                exact ⟨(by rw [HST.out]; try rfl), hbe⟩


            · have HFI : Hid (fitsFault l v d = d.W.fault) := Lib.hid (by unfold fitsFault; rw [if_neg (by simp [H0.out]), if_neg (by simp [H1.out]), if_neg (by simp [H2.out]), if_pos f3])
              have HST : Hid (stepFault ls vs ds ln kp = d.W.fault) := Lib.hid (by rw [HF.out, step_stop (f := d.W.fault) HT.out hlt (by rw [← HX.out.1, ← HX.out.2.1, ← HX.out.2.2]; exact HFI.out) f3])
              have g1 : (d.W.fault == 0) = false := by simp [f3]
              have g2 : (d.W.fault != 0) = true := by simp [f3]
              clear f3
              have e0 := ML.c0
              have e1 := ML.c1
              have e2 := ML.c2
              have e3 := ML.c3
              have e4 := ML.c4
              have e5 := ML.c5
              have e6 := ML.c6
              go_wp2_with fail
              refine (refLayerFault_any l _ _ ⟨a3, n3, k3, b3, o3, a4, n4, k4, b4, o4, rfl, x3, x4⟩).mono ?_
              rw [H0.out]
              rintro e w1 ⟨rfl, hb1⟩
              clear e0 e1 e2 e3 e4 e5 e6
              replace ML := ML.keep hb1
              replace MV := MV.keep hb1
              replace MD := MD.keep hb1
              replace x3 := x3.keep hb1
              replace x4 := x4.keep hb1
              replace x5 := x5.keep hb1
              replace x6 := x6.keep hb1
              replace x7 := x7.keep hb1
              replace x8 := x8.keep hb1
              have e0 := MV.c0
              have e1 := MV.c1
              have e2 := MV.c2
              go_wp2_with fail
              refine (refMatFault_any v.W _ _ (MatAt.mk (show IntsAt _ a5 n5 k5 b5 o5 v.W.cells from x5))).mono ?_
              rw [H1.out]
              rintro e w2 ⟨rfl, hb2⟩
              clear e0 e1 e2
              replace ML := ML.keep hb2
              replace MV := MV.keep hb2
              replace MD := MD.keep hb2
              replace x3 := x3.keep hb2
              replace x4 := x4.keep hb2
              replace x5 := x5.keep hb2
              replace x6 := x6.keep hb2
              replace x7 := x7.keep hb2
              replace x8 := x8.keep hb2
              have e0 := MV.c3
              have e1 := MV.c4
              have e2 := MV.c5
              go_wp2_with fail
              refine (refMatFault_any v.B _ _ (MatAt.mk (show IntsAt _ a6 n6 k6 b6 o6 v.B.cells from x6))).mono ?_
              rw [H2.out]
              rintro e w3 ⟨rfl, hb3⟩
              clear e0 e1 e2
              replace ML := ML.keep hb3
              replace MV := MV.keep hb3
              replace MD := MD.keep hb3
              replace x3 := x3.keep hb3
              replace x4 := x4.keep hb3
              replace x5 := x5.keep hb3
              replace x6 := x6.keep hb3
              replace x7 := x7.keep hb3
              replace x8 := x8.keep hb3
              have e0 := MD.c0
              have e1 := MD.c1
              have e2 := MD.c2
              go_wp2_with fail
              refine (refMatFault_any d.W _ _ (MatAt.mk (show IntsAt _ a7 n7 k7 b7 o7 d.W.cells from x7))).mono ?_
              rintro e w4 ⟨rfl, hb4⟩
              clear e0 e1 e2
              replace ML := ML.keep hb4
              replace MV := MV.keep hb4
              replace MD := MD.keep hb4
              replace x3 := x3.keep hb4
              replace x4 := x4.keep hb4
              replace x5 := x5.keep hb4
              replace x6 := x6.keep hb4
              replace x7 := x7.keep hb4
              replace x8 := x8.keep hb4
              have hbe : Below w.heap.size w w4 := (by repeat (first | fail | (with_reducible exact Below.refl _ _) | (with_reducible exact hbr) | (with_reducible refine Below.al ?_ _) | (with_reducible refine Below.drN ?_ _) | (with_reducible refine Below.drew ?_) | (with_reducible refine Below.st ?_ ?_ _; rotate_left 1; (first | (dsimp only; omega) | omega | (simp; omega) | simp)) | (with_reducible refine Below.go ?_ hb4) | (with_reducible refine Below.go ?_ hb3) | (with_reducible refine Below.go ?_ hb2) | (with_reducible refine Below.go ?_ hb1) | exact Below.refl _ _ | exact hbr))
              clear ML MV MD x3 x4 x5 x6 x7 x8
              go_wp2
              go_ret
              exact ⟨(by rw [HST.out]; try rfl), hbe⟩


          · have HFI : Hid (fitsFault l v d = v.B.fault) := Lib.hid (by unfold fitsFault; rw [if_neg (by simp [H0.out]), if_neg (by simp [H1.out]), if_pos f2])
            have HST : Hid (stepFault ls vs ds ln kp = v.B.fault) := Lib.hid (by rw [HF.out, step_stop (f := v.B.fault) HT.out hlt (by rw [← HX.out.1, ← HX.out.2.1, ← HX.out.2.2]; exact HFI.out) f2])
            have g1 : (v.B.fault == 0) = false := by simp [f2]
            have g2 : (v.B.fault != 0) = true := by simp [f2]
            clear f2
            have e0 := ML.c0
            have e1 := ML.c1
            have e2 := ML.c2
            have e3 := ML.c3
            have e4 := ML.c4
            have e5 := ML.c5
            have e6 := ML.c6
            go_wp2_with fail
            refine (refLayerFault_any l _ _ ⟨a3, n3, k3, b3, o3, a4, n4, k4, b4, o4, rfl, x3, x4⟩).mono ?_
            rw [H0.out]
            rintro e w1 ⟨rfl, hb1⟩
            clear e0 e1 e2 e3 e4 e5 e6
            replace ML := ML.keep hb1
            replace MV := MV.keep hb1
            replace MD := MD.keep hb1
            replace x3 := x3.keep hb1
            replace x4 := x4.keep hb1
            replace x5 := x5.keep hb1
            replace x6 := x6.keep hb1
            replace x7 := x7.keep hb1
            replace x8 := x8.keep hb1
            have e0 := MV.c0
            have e1 := MV.c1
            have e2 := MV.c2
            go_wp2_with fail
            refine (refMatFault_any v.W _ _ (MatAt.mk (show IntsAt _ a5 n5 k5 b5 o5 v.W.cells from x5))).mono ?_
            rw [H1.out]
            rintro e w2 ⟨rfl, hb2⟩
            clear e0 e1 e2
            replace ML := ML.keep hb2
            replace MV := MV.keep hb2
            replace MD := MD.keep hb2
            replace x3 := x3.keep hb2
            replace x4 := x4.keep hb2
            replace x5 := x5.keep hb2
            replace x6 := x6.keep hb2
            replace x7 := x7.keep hb2
            replace x8 := x8.keep hb2
            have e0 := MV.c3
            have e1 := MV.c4
            have e2 := MV.c5
            go_wp2_with fail
            refine (refMatFault_any v.B _ _ (MatAt.mk (show IntsAt _ a6 n6 k6 b6 o6 v.B.cells from x6))).mono ?_
            rintro e w3 ⟨rfl, hb3⟩
            clear e0 e1 e2
            replace ML := ML.keep hb3
            replace MV := MV.keep hb3
            replace MD := MD.keep hb3
            replace x3 := x3.keep hb3
            replace x4 := x4.keep hb3
            replace x5 := x5.keep hb3
            replace x6 := x6.keep hb3
            replace x7 := x7.keep hb3
            replace x8 := x8.keep hb3
            have hbe : Below w.heap.size w w3 := (by repeat (first | fail | (with_reducible exact Below.refl _ _) | (with_reducible exact hbr) | (with_reducible refine Below.al ?_ _) | (with_reducible refine Below.drN ?_ _) | (with_reducible refine Below.drew ?_) | (with_reducible refine Below.st ?_ ?_ _; rotate_left 1; (first | (dsimp only; omega) | omega | (simp; omega) | simp)) | (with_reducible refine Below.go ?_ hb3) | (with_reducible refine Below.go ?_ hb2) | (with_reducible refine Below.go ?_ hb1) | exact Below.refl _ _ | exact hbr))
            clear ML MV MD x3 x4 x5 x6 x7 x8
            go_wp2
            go_ret
            exact ⟨(by rw [HST.out]; try rfl), hbe⟩


        · have HFI : Hid (fitsFault l v d = v.W.fault) := Lib.hid (by unfold fitsFault; rw [if_neg (by simp [H0.out]), if_pos f1])
          have HST : Hid (stepFault ls vs ds ln kp = v.W.fault) := Lib.hid (by rw [HF.out, step_stop (f := v.W.fault) HT.out hlt (by rw [← HX.out.1, ← HX.out.2.1, ← HX.out.2.2]; exact HFI.out) f1])
          have g1 : (v.W.fault == 0) = false := by simp [f1]
          have g2 : (v.W.fault != 0) = true := by simp [f1]
          clear f1
          have e0 := ML.c0
          have e1 := ML.c1
          have e2 := ML.c2
          have e3 := ML.c3
          have e4 := ML.c4
          have e5 := ML.c5
          have e6 := ML.c6
          go_wp2_with fail
          refine (refLayerFault_any l _ _ ⟨a3, n3, k3, b3, o3, a4, n4, k4, b4, o4, rfl, x3, x4⟩).mono ?_
          rw [H0.out]
          rintro e w1 ⟨rfl, hb1⟩
          clear e0 e1 e2 e3 e4 e5 e6
          replace ML := ML.keep hb1
          replace MV := MV.keep hb1
          replace MD := MD.keep hb1
          replace x3 := x3.keep hb1
          replace x4 := x4.keep hb1
          replace x5 := x5.keep hb1
          replace x6 := x6.keep hb1
          replace x7 := x7.keep hb1
          replace x8 := x8.keep hb1
          have e0 := MV.c0
          have e1 := MV.c1
          have e2 := MV.c2
          go_wp2_with fail
          refine (refMatFault_any v.W _ _ (MatAt.mk (show IntsAt _ a5 n5 k5 b5 o5 v.W.cells from x5))).mono ?_
          rintro e w2 ⟨rfl, hb2⟩
          clear e0 e1 e2
          replace ML := ML.keep hb2
          replace MV := MV.keep hb2
          replace MD := MD.keep hb2
          replace x3 := x3.keep hb2
          replace x4 := x4.keep hb2
          replace x5 := x5.keep hb2
          replace x6 := x6.keep hb2
          replace x7 := x7.keep hb2
          replace x8 := x8.keep hb2
          have hbe : Below w.heap.size w w2 := (by repeat (first | fail | (with_reducible exact Below.refl _ _) | (with_reducible exact hbr) | (with_reducible refine Below.al ?_ _) | (with_reducible refine Below.drN ?_ _) | (with_reducible refine Below.drew ?_) | (with_reducible refine Below.st ?_ ?_ _; rotate_left 1; (first | (dsimp only; omega) | omega | (simp; omega) | simp)) | (with_reducible refine Below.go ?_ hb2) | (with_reducible refine Below.go ?_ hb1) | exact Below.refl _ _ | exact hbr))
          clear ML MV MD x3 x4 x5 x6 x7 x8
          go_wp2
          go_ret
          exact ⟨(by rw [HST.out]; try rfl), hbe⟩


      · have HFI : Hid (fitsFault l v d = l.fault) := Lib.hid (by unfold fitsFault; rw [if_pos f0])
        have HST : Hid (stepFault ls vs ds ln kp = l.fault) := Lib.hid (by rw [HF.out, step_stop (f := l.fault) HT.out hlt (by rw [← HX.out.1, ← HX.out.2.1, ← HX.out.2.2]; exact HFI.out) f0])
        have g1 : (l.fault == 0) = false := by simp [f0]
        have g2 : (l.fault != 0) = true := by simp [f0]
        clear f0
        have e0 := ML.c0
        have e1 := ML.c1
        have e2 := ML.c2
        have e3 := ML.c3
        have e4 := ML.c4
        have e5 := ML.c5
        have e6 := ML.c6
        go_wp2_with fail
        refine (refLayerFault_any l _ _ ⟨a3, n3, k3, b3, o3, a4, n4, k4, b4, o4, rfl, x3, x4⟩).mono ?_
        rintro e w1 ⟨rfl, hb1⟩
        clear e0 e1 e2 e3 e4 e5 e6
        replace ML := ML.keep hb1
        replace MV := MV.keep hb1
        replace MD := MD.keep hb1
        replace x3 := x3.keep hb1
        replace x4 := x4.keep hb1
        replace x5 := x5.keep hb1
        replace x6 := x6.keep hb1
        replace x7 := x7.keep hb1
        replace x8 := x8.keep hb1
        have hbe : Below w.heap.size w w1 := (by repeat (first | fail | (with_reducible exact Below.refl _ _) | (with_reducible exact hbr) | (with_reducible refine Below.al ?_ _) | (with_reducible refine Below.drN ?_ _) | (with_reducible refine Below.drew ?_) | (with_reducible refine Below.st ?_ ?_ _; rotate_left 1; (first | (dsimp only; omega) | omega | (simp; omega) | simp)) | (with_reducible refine Below.go ?_ hb1) | exact Below.refl _ _ | exact hbr))
        clear ML MV MD x3 x4 x5 x6 x7 x8
        go_wp2
        go_ret
        exact ⟨(by rw [HST.out]; try rfl), hbe⟩


    · obtain rfl : t = n := by omega
      go_wp2
      go_ret
      exact ⟨(by rw [HF.out, HT.out]; try rfl), hbr⟩
theorem refStepFault_any (ls : List Lay) (vs ds : List Grd) (ln kp : Int) (F G H : Nat → Prop) (a0 a1 a2 : Option Addr) (n n1 n2 k0 k1 k2 b0 b1 b2 o0 o1 o2 : Nat) (w : World) (h0 : RowAt Form.lay w F a0 n k0 b0 o0 ls) (h1 : RowAt Form.grd w G a1 n1 k1 b1 o1 vs) (h2 : RowAt Form.grd w H a2 n2 k2 b2 o2 ds) :
    Calls Tryd.prog 20 #[.slice a0 n k0, .slice a1 n1 k1, .slice a2 n2 k2, .agg #[.int .i64 ln, .int .i64 kp]] w fun e w' => e = .returned (.int .i64 (stepFault ls vs ds ln kp)) ∧ Below w.heap.size w w' := by
  by_cases hb : ln < 0 ∨ 256 < ln ∨ kp < 0 ∨ 256 < kp
  · exact refStepFault_range ls vs ds ln kp F G H a0 a1 a2 n n1 n2 k0 k1 k2 b0 b1 b2 o0 o1 o2 w h0 h1 h2 hb
  · by_cases hs : 12 < n ∨ n1 ≠ n ∨ n2 ≠ n
    · exact refStepFault_sizes ls vs ds ln kp F G H a0 a1 a2 n n1 n2 k0 k1 k2 b0 b1 b2 o0 o1 o2 w h0 h1 h2 hb hs
    · obtain rfl : n1 = n := by omega
      obtain rfl : n2 = n1 := by omega
      exact refStepFault_run ls vs ds ln kp F G H a0 a1 a2 n2 k0 k1 k2 b0 b1 b2 o0 o1 o2 w h0 h1 h2 hb (by omega)
end Go.Proofs.YtikcdjibflleeaaDoor
