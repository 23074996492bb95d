/- Texts joined: Train1, Made, Batch1. -/
import Derived.Test.YtchngeagnlngaaaJ10
import Derived.Test.YtchngeagnlngaaaJ08
import Derived.Test.YtchngeagnlngaaaProg
import Derived.Test.YtchngeagnlngaaaJ03
import Derived.ProofKit
import Derived.Test.YtchngeagnlngaaaJ04
import Derived.Test.YtchngeagnlngaaaJ11
import Derived.Test.YtchngeagnlngaaaJ09
section
set_option linter.unusedVariables false
set_option linter.unusedSimpArgs false
set_option linter.unusedSectionVars false
set_option maxRecDepth 100000
namespace Gal
theorem stTo_stop {ls : List Lay} {vs : List Grd} {k n : Nat} (hk : k < n) (hz : stTo ls vs k = 0) (hp : stPart (lx ls k) (gx vs k) ≠ 0) : stTo ls vs n = stPart (lx ls k) (gx vs k) := by
 have h1 := stTo_next hz
 rw [← h1]
 exact stTo_stays hk (by rw [h1]; exact hp)
theorem Sta.fault_to {s : Sta} (h1 : ¬ 12 < s.N.length) (h2 : s.V.length = s.N.length) (h3 : ¬ (s.steps < 0 ∨ 1000000000 < s.steps)) : s.fault = stTo s.N s.V s.N.length := by
 unfold Sta.fault
 rw [if_neg h1, if_neg (by omega), if_neg h3]
end Gal
namespace Go.Proofs.Ytchngeagnlngaaa
open Go.RowKit Gal
set_option maxHeartbeats 4000000
theorem trainCheck_any (s : Sta) (F G : Nat → Prop) (a0 a1 : Option Addr) (n n1 k0 k1 b0 b1 o0 o1 : Nat) (w : World) (h0 : RowAt Form.lay w F a0 n k0 b0 o0 s.N) (h1 : RowAt Form.grd w G a1 n1 k1 b1 o1 s.V) :
  Calls Try.prog 59 #[.agg #[.slice a0 n k0, .slice a1 n1 k1, .int .i64 s.steps]] w fun e w' => e = .returned (errV s.fault) ∧ Below w.heap.size w w' := by
 have HL0 := Lib.hid h0.len
 have HL1 := Lib.hid h1.len
 have hm := h0.max
 have hm1 := h1.max
 unfold maxLen at hm hm1
 by_cases g1 : 12 < n
 ·have HF : Hid (s.fault = 3) := Lib.hid (by unfold Sta.fault; rw [if_pos (by rw [HL0.out]; exact g1)])
  have e1 : ((n : Int) > 12) = True := eq_true (by omega)
  clear g1
  rw [show s.fault = 3 from HF.out, errV_err (by decide)]
  go_enter Try.func59, Try.ntmps59
  go_wp2
  go_ret
  exact ⟨by rfl, Below.x0⟩
 ·have e1 : ((n : Int) > 12) = False := eq_false (by omega)
  by_cases g2 : n1 = n
  ·have e2 : ((n1 : Int) != (n : Int)) = false := by rw [bne_eq_false_iff_eq]; omega
   by_cases g3 : s.steps < 0
   ·have HF : Hid (s.fault = 1) := Lib.hid (by unfold Sta.fault; rw [if_neg (by rw [HL0.out]; exact g1), if_neg (by rw [HL0.out, HL1.out]; omega), if_pos (Or.inl g3)])
    have e3 : (s.steps < 0) = True := eq_true g3
    clear g1 g2 g3
    rw [show s.fault = 1 from HF.out, errV_err (by decide)]
    go_enter Try.func59, Try.ntmps59
    go_wp2
    go_ret
    exact ⟨by rfl, Below.x0⟩
   ·have e3 : (s.steps < 0) = False := eq_false g3
    by_cases g4 : 1000000000 < s.steps
    ·have HF : Hid (s.fault = 1) := Lib.hid (by unfold Sta.fault; rw [if_neg (by rw [HL0.out]; exact g1), if_neg (by rw [HL0.out, HL1.out]; omega), if_pos (Or.inr g4)])
     have e4 : (s.steps > 1000000000) = True := eq_true (by omega)
     clear g1 g2 g3 g4
     rw [show s.fault = 1 from HF.out, errV_err (by decide)]
     go_enter Try.func59, Try.ntmps59
     go_wp2
     go_ret
     exact ⟨by rfl, Below.x0⟩
    ·have e4 : (s.steps > 1000000000) = False := eq_false (by omega)
     have HTO : Hid (s.fault = stTo s.N s.V n) := Lib.hid (by rw [Sta.fault_to (by rw [HL0.out]; exact g1) (by rw [HL0.out, HL1.out]; exact g2) (by omega), HL0.out])
     subst g2
     clear g3 g4
     go_enter Try.func59, Try.ntmps59
     go_wp2
     go_loopw [37] (fun i wr => ∃ t : Nat, t ≤ n1 ∧ i = .int .i64 t ∧ Hid (stTo s.N s.V t = 0) ∧ Box wr w.heap.size [.slice a0 n1 k0, .slice a1 n1 k1, .int .i64 s.steps] 34 ∧ Below w.heap.size w wr) (fun i _ => n1 - (intOf i).toNat)
     case atStart => exact ⟨0, Nat.zero_le _, rfl, Lib.hid rfl, Box.new' _ _ [.slice a0 n1 k0, .slice a1 n1 k1, .int .i64 s.steps] _ rfl, Below.x0⟩
     case round =>
      obtain ⟨t, ht, rfl, HT, hS, hbr⟩ := hrel
      by_cases hlt : t < n1
      ·obtain rfl := h0.ptr (by omega)
       obtain rfl := h1.ptr (by omega)
       obtain ⟨a2, n2, k2, b2, o2, a3, n3, k3, b3, o3, c0, c1, c2, c3, c4, c5, c6, x1, x2⟩ := lay_cells (h0.keep hbr) hlt
       by_cases f1 : (lx s.N t).fault = 0
       ·have HFL := Lib.hid f1
        have HE1 : Hid (errV (lx s.N t).fault = .nilIface) := Lib.hid (errV_nil f1)
        clear f1
        go_wp2_with fail
        refine (layCheck_any (lx s.N t) _ _ ⟨_, _, _, _, _, _, _, _, _, _, rfl, x1.alloc _, x2.alloc _⟩).mono ?_
        rw [HE1.out]
        rintro e w1 ⟨rfl, hb1⟩
        have B4 := (Box.new wr [.int .i64 (lx s.N t).kind, .int .i64 (lx s.N t).W.rows, .int .i64 (lx s.N t).W.cols, .slice a2 n2 k2, .int .i64 (lx s.N t).B.rows, .int .i64 (lx s.N t).B.cols, .slice a3 n3 k3] 69).keep hb1
        have B4c := B4.cell
        have B4f := B4.thawed
        have B4z := B4.lt
        have B4k := lt_add B4z
        have hkw1 : Below wr.heap.size wr w1 := (Below.x1 hb1)
        replace hS := hS.keep hkw1
        replace hSc := hS.cell
        replace hSf := hS.thawed
        replace hSz := hS.lt
        replace hSk := lt_add hSz
        have hsw1 := hkw1.size
        clear x1 x2 c0 c1 c2 c3 c4 c5 c6
        have hbw1 : Below w.heap.size w w1 := hbr.trans (hkw1.mono hbr.size)
        obtain ⟨a4, n4, k4, b4, o4, a5, n5, k5, b5, o5, d0, d1, d2, d3, d4, d5, y1, y2⟩ := grd_cells (h1.keep hbw1) (gx_get (i := t) (by rw [HL1.out]; exact hlt))
        by_cases f2 : (gx s.V t).W.fault = 0
        ·have HFW := Lib.hid f2
         have HE2 : Hid (errV (matFault (gx s.V t).W.rows (gx s.V t).W.cols (gx s.V t).W.cells) = .nilIface) := Lib.hid (errV_nil f2)
         clear f2
         go_wp2_with fail
         refine (matCheck_any _ _ _ _ _ _ _ (gx s.V t).W.cells _ (y1.alloc _)).mono ?_
         rw [HE2.out]
         rintro e w2 ⟨rfl, hb2⟩
         have B6 := (Box.new w1 [.int .i64 (gx s.V t).W.rows, .int .i64 (gx s.V t).W.cols, .slice a4 n4 k4, .int .i64 (gx s.V t).B.rows, .int .i64 (gx s.V t).B.cols, .slice a5 n5 k5] 93).keep hb2
         have B6c := B6.cell
         have B6f := B6.thawed
         have B6z := B6.lt
         have B6k := lt_add B6z
         have hkw2 : Below w1.heap.size w1 w2 := (Below.x1 hb2)
         replace hS := hS.keep hkw2
         replace hSc := hS.cell
         replace hSf := hS.thawed
         replace hSz := hS.lt
         replace hSk := lt_add hSz
         replace B4 := B4.keep hkw2
         replace B4c := B4.cell
         replace B4f := B4.thawed
         replace B4z := B4.lt
         replace B4k := lt_add B4z
         replace y2 := y2.keep hkw2
         have hsw2 := hkw2.size
         clear y1 d0 d1 d2 d3 d4 d5
         by_cases f3 : (gx s.V t).B.fault = 0
         ·have HFB := Lib.hid f3
          have HE3 : Hid (errV (matFault (gx s.V t).B.rows (gx s.V t).B.cols (gx s.V t).B.cells) = .nilIface) := Lib.hid (errV_nil f3)
          clear f3
          go_wp2_with fail
          refine (matCheck_any _ _ _ _ _ _ _ (gx s.V t).B.cells _ y2).mono ?_
          rw [HE3.out]
          rintro e w3 ⟨rfl, hb3⟩
          have hkw3 : Below w2.heap.size w2 w3 := (Below.x1 hb3)
          replace hS := hS.keep hkw3
          replace hSc := hS.cell
          replace hSf := hS.thawed
          replace hSz := hS.lt
          replace hSk := lt_add hSz
          replace B4 := B4.keep hkw3
          replace B4c := B4.cell
          replace B4f := B4.thawed
          replace B4z := B4.lt
          replace B4k := lt_add B4z
          replace B6 := B6.keep hkw3
          replace B6c := B6.cell
          replace B6f := B6.thawed
          replace B6z := B6.lt
          replace B6k := lt_add B6z
          have hsw3 := hkw3.size
          have hbe : Below w.heap.size w w3 := (by repeat (first | (with_reducible first | exact Below.refl _ _ | exact hbw1 | refine Below.al ?_ _ | refine Below.drN ?_ _ | refine Below.drew ?_ | refine Below.sx ?_ _ | refine Below.go ?_ hb3 | refine Below.go ?_ hb2) | exact Below.refl _ _ | exact hbw1))
          clear y2 hb3 hb2 hbw1 hkw3 hkw2 hkw1
          by_cases q1 : (gx s.V t).W.rows = (lx s.N t).W.rows
          ·have r1 : ((gx s.V t).W.rows != (lx s.N t).W.rows) = false := by rw [bne_eq_false_iff_eq]; exact q1
           by_cases q2 : (gx s.V t).W.cols = (lx s.N t).W.cols
           ·have r2 : ((gx s.V t).W.cols != (lx s.N t).W.cols) = false := by rw [bne_eq_false_iff_eq]; exact q2
            by_cases q3 : (gx s.V t).B.rows = (lx s.N t).B.rows
            ·have r3 : ((gx s.V t).B.rows != (lx s.N t).B.rows) = false := by rw [bne_eq_false_iff_eq]; exact q3
             by_cases q4 : (gx s.V t).B.cols = (lx s.N t).B.cols
             ·have r4 : ((gx s.V t).B.cols != (lx s.N t).B.cols) = false := by rw [bne_eq_false_iff_eq]; exact q4
              have HNX : Hid (stTo s.N s.V (t + 1) = 0) := Lib.hid (by
               rw [stTo_next HT.out]
               unfold stPart
               rw [if_neg (by simp [HFL.out]), if_neg (by simp [HFW.out]), if_neg (by simp [HFB.out]), if_pos ⟨⟨q1, q2⟩, q3, q4⟩])
              clear q1 q2 q3 q4
              go_wp2
              go_roundw
              case rel => exact ⟨t + 1, by omega, by go_num, HNX, hS, hbe⟩
              case measure => simp [intOf]; omega
             ·have r4 : ((gx s.V t).B.cols != (lx s.N t).B.cols) = true := by rw [bne_iff_ne]; exact q4
              have HNZ : Hid ((2 : Int) ≠ 0) := Lib.hid (by decide)
              have HR : Hid (errV s.fault = .iface 62 (.int .i64 2)) := Lib.hid (by
               have h1 : stPart (lx s.N t) (gx s.V t) = 2 := by
                unfold stPart
                rw [if_neg (by simp [HFL.out]), if_neg (by simp [HFW.out]), if_neg (by simp [HFB.out]), if_neg (fun hh => q4 hh.2.2)]
               rw [HTO.out, stTo_stop hlt HT.out (by rw [h1]; exact HNZ.out), h1]
               exact errV_err HNZ.out)
              go_wp2
              go_ret
              exact ⟨by rw [HR.out]; rfl, (Below.y0 hbe)⟩
            ·have r3 : ((gx s.V t).B.rows != (lx s.N t).B.rows) = true := by rw [bne_iff_ne]; exact q3
             have HNZ : Hid ((2 : Int) ≠ 0) := Lib.hid (by decide)
             have HR : Hid (errV s.fault = .iface 62 (.int .i64 2)) := Lib.hid (by
              have h1 : stPart (lx s.N t) (gx s.V t) = 2 := by
               unfold stPart
               rw [if_neg (by simp [HFL.out]), if_neg (by simp [HFW.out]), if_neg (by simp [HFB.out]), if_neg (fun hh => q3 hh.2.1)]
              rw [HTO.out, stTo_stop hlt HT.out (by rw [h1]; exact HNZ.out), h1]
              exact errV_err HNZ.out)
             go_wp2
             go_ret
             exact ⟨by rw [HR.out]; rfl, (Below.y0 hbe)⟩
           ·have r2 : ((gx s.V t).W.cols != (lx s.N t).W.cols) = true := by rw [bne_iff_ne]; exact q2
            have HNZ : Hid ((2 : Int) ≠ 0) := Lib.hid (by decide)
            have HR : Hid (errV s.fault = .iface 62 (.int .i64 2)) := Lib.hid (by
             have h1 : stPart (lx s.N t) (gx s.V t) = 2 := by
              unfold stPart
              rw [if_neg (by simp [HFL.out]), if_neg (by simp [HFW.out]), if_neg (by simp [HFB.out]), if_neg (fun hh => q2 hh.1.2)]
             rw [HTO.out, stTo_stop hlt HT.out (by rw [h1]; exact HNZ.out), h1]
             exact errV_err HNZ.out)
            go_wp2
            go_ret
            exact ⟨by rw [HR.out]; rfl, (Below.y0 hbe)⟩
          ·have r1 : ((gx s.V t).W.rows != (lx s.N t).W.rows) = true := by rw [bne_iff_ne]; exact q1
           have HNZ : Hid ((2 : Int) ≠ 0) := Lib.hid (by decide)
           have HR : Hid (errV s.fault = .iface 62 (.int .i64 2)) := Lib.hid (by
            have h1 : stPart (lx s.N t) (gx s.V t) = 2 := by
             unfold stPart
             rw [if_neg (by simp [HFL.out]), if_neg (by simp [HFW.out]), if_neg (by simp [HFB.out]), if_neg (fun hh => q1 hh.1.1)]
            rw [HTO.out, stTo_stop hlt HT.out (by rw [h1]; exact HNZ.out), h1]
            exact errV_err HNZ.out)
           go_wp2
           go_ret
           exact ⟨by rw [HR.out]; rfl, (Below.y0 hbe)⟩
         ·have HNZ := Lib.hid f3
          have HE3 : Hid (errV (matFault (gx s.V t).B.rows (gx s.V t).B.cols (gx s.V t).B.cells) = .iface 62 (.int .i64 (gx s.V t).B.fault)) := Lib.hid (errV_err f3)
          clear f3
          go_wp2_with fail
          refine (matCheck_any _ _ _ _ _ _ _ (gx s.V t).B.cells _ y2).mono ?_
          rw [HE3.out]
          rintro e w3 ⟨rfl, hb3⟩
          have hbe : Below w.heap.size w w3 := (by repeat (first | (with_reducible first | exact Below.refl _ _ | exact hbw1 | refine Below.al ?_ _ | refine Below.drN ?_ _ | refine Below.drew ?_ | refine Below.sx ?_ _ | refine Below.go ?_ hb3 | refine Below.go ?_ hb2) | exact Below.refl _ _ | exact hbw1))
          -- (gx s.V t).B.fault: the fault, (by unfold stPart; rw [if_neg (by simp [HFL.out]), if_neg (by simp [HFW.out]), if_pos HNZ.out]): why, hbe: Below
          have HR : Hid (errV s.fault = .iface 62 (.int .i64 ((gx s.V t).B.fault))) := Lib.hid (by
           have h1 : stPart (lx s.N t) (gx s.V t) = (gx s.V t).B.fault := (by unfold stPart; rw [if_neg (by simp [HFL.out]), if_neg (by simp [HFW.out]), if_pos HNZ.out])
           rw [HTO.out, stTo_stop hlt HT.out (by rw [h1]; exact HNZ.out), h1]
           exact errV_err HNZ.out)
          go_wp2
          go_ret
          exact ⟨by rw [HR.out]; rfl, (Below.y0 hbe)⟩
        ·have HNZ := Lib.hid f2
         have HE2 : Hid (errV (matFault (gx s.V t).W.rows (gx s.V t).W.cols (gx s.V t).W.cells) = .iface 62 (.int .i64 (gx s.V t).W.fault)) := Lib.hid (errV_err f2)
         clear f2
         go_wp2_with fail
         refine (matCheck_any _ _ _ _ _ _ _ (gx s.V t).W.cells _ (y1.alloc _)).mono ?_
         rw [HE2.out]
         rintro e w2 ⟨rfl, hb2⟩
         have hbe : Below w.heap.size w w2 := (Below.y1 hb2 hbw1)
         -- (gx s.V t).W.fault: the fault, (by unfold stPart; rw [if_neg (by simp [HFL.out]), if_pos HNZ.out]): why, hbe: Below
         have HR : Hid (errV s.fault = .iface 62 (.int .i64 ((gx s.V t).W.fault))) := Lib.hid (by
          have h1 : stPart (lx s.N t) (gx s.V t) = (gx s.V t).W.fault := (by unfold stPart; rw [if_neg (by simp [HFL.out]), if_pos HNZ.out])
          rw [HTO.out, stTo_stop hlt HT.out (by rw [h1]; exact HNZ.out), h1]
          exact errV_err HNZ.out)
         go_wp2
         go_ret
         exact ⟨by rw [HR.out]; rfl, (Below.y0 hbe)⟩
       ·have HNZ := Lib.hid f1
        have HE1 : Hid (errV (lx s.N t).fault = .iface 62 (.int .i64 (lx s.N t).fault)) := Lib.hid (errV_err f1)
        clear f1
        go_wp2_with fail
        refine (layCheck_any (lx s.N t) _ _ ⟨_, _, _, _, _, _, _, _, _, _, rfl, x1.alloc _, x2.alloc _⟩).mono ?_
        rw [HE1.out]
        rintro e w1 ⟨rfl, hb1⟩
        have hbe : Below w.heap.size w w1 := (Below.y1 hb1 hbr)
        -- (lx s.N t).fault: the fault, (if_pos HNZ.out): why, hbe: Below
        have HR : Hid (errV s.fault = .iface 62 (.int .i64 ((lx s.N t).fault))) := Lib.hid (by
         have h1 : stPart (lx s.N t) (gx s.V t) = (lx s.N t).fault := (if_pos HNZ.out)
         rw [HTO.out, stTo_stop hlt HT.out (by rw [h1]; exact HNZ.out), h1]
         exact errV_err HNZ.out)
        go_wp2
        go_ret
        exact ⟨by rw [HR.out]; rfl, (Below.y0 hbe)⟩
      ·obtain rfl : t = n1 := by omega
       have HR : Hid (errV s.fault = .nilIface) := Lib.hid (by rw [HTO.out, HT.out]; exact errV_nil rfl)
       go_wp2
       go_ret
       exact ⟨by rw [HR.out]; rfl, (Below.y0 hbr)⟩
  ·have HF : Hid (s.fault = 2) := Lib.hid (by unfold Sta.fault; rw [if_neg (by rw [HL0.out]; exact g1), if_pos (by rw [HL0.out, HL1.out]; exact g2)])
   have e2 : ((n1 : Int) != (n : Int)) = true := by rw [bne_iff_ne]; omega
   clear g1 g2
   rw [show s.fault = 2 from HF.out, errV_err (by decide)]
   go_enter Try.func59, Try.ntmps59
   go_wp2
   go_ret
   exact ⟨by rfl, Below.x0⟩
end Go.Proofs.Ytchngeagnlngaaa
end
section
set_option linter.unusedVariables false
set_option linter.unusedSimpArgs false
namespace Go.Proofs.Ytchngeagnlngaaa
open Go.RowKit Gal
theorem ints1 {w : World} {b : Nat} {x : Int} {t : TypeId} (h : Box w b [.int .i64 x] t) : IntsAt w (some ⟨b, 0, none⟩) 1 1 b 0 [x] := by
 refine ⟨rfl, Nat.le_refl _, by unfold maxLen; omega, fun _ => rfl, fun _ => h.lt, fun i hi => ?_⟩
 obtain rfl : i = 0 := by omega
 exact (h.cell _).trans rfl
end Go.Proofs.Ytchngeagnlngaaa
end
section
set_option linter.unusedVariables false
set_option linter.unusedSimpArgs false
namespace Go.Proofs.Ytchngeagnlngaaa
open Go.RowKit Gal
set_option maxRecDepth 100000 in
set_option maxHeartbeats 1000000 in
theorem batchSizes_ok (R P : Nat) (w : World) (hR : R ≤ 24) (hP : P ≤ 12) (h1 : 1 ≤ P) (hPR : P ≤ R) :
  Calls Try.prog 104 #[.int .i64 R, .int .i64 P] w fun e w' => ∃ v, e = .returned (.tuple #[v, .nilIface]) ∧
   w'.ownsRow w.heap.size 3 1 v P ((ints (sizesOf R P)).map (Value.int .i64)) ∧ Below w.heap.size w w' := by
 obtain ⟨i0, hi, hz0, hz1, hz2⟩ := info_parts info_int
 have hRP : decide (R < P) = false := decide_eq_false (by omega)
 go_enter Try.func104, Try.ntmps104
 go_wp2
 go_loopw [0, 6, 7, 8] (fun r o l n wr => ∃ (left R' : Nat) (pre : List Nat), l = .int .i64 left ∧ r = .int .i64 R' ∧ R' ≤ 24 ∧ left ≤ R' ∧ Hid (sizesOf R P = pre ++ sizesOf R' left) ∧ pre.length + left = P ∧
   wr.ownsRow w.heap.size 3 1 o pre.length ((ints pre).map (Value.int .i64)) ∧ Below w.heap.size w wr) (fun r o l n _ => (intOf l).toNat)
 case atStart => exact ⟨P, R, [], rfl, rfl, hR, hPR, Lib.hid rfl, by simp, World.ownsRow_nil _ _ _ _, Below.refl _ _⟩
 case round =>
  obtain ⟨left, R', pre, rfl, rfl, hR', hlR, hs, hl, hown, hb⟩ := hrel
  cases left with
  | zero =>
   obtain ⟨av, cv, rfl⟩ := own_slice hown
   go_wp2
   go_ret2
   refine ⟨_, rfl, ?_, hb⟩
   have hs' := hs.out
   simp only [sizesOf, List.append_nil] at hs'
   rw [hs', ← hl]
   exact hown
  | succ m =>
   have hq : ((R' : Int) + ((m : Int) + 1) - 1) / ((m : Int) + 1) = (((R' + m) / (m + 1) : Nat) : Int) := by
    have e : (R' : Int) + ((m : Int) + 1) - 1 = ((R' + m : Nat) : Int) := by omega
    rw [e]
    exact (Int.natCast_ediv _ _).symm
   have hd1 := share_le R' m
   have hd2 := share_rest hlR
   obtain ⟨q, hqq⟩ : ∃ q, (R' + m) / (m + 1) = q := ⟨_, rfl⟩
   rw [hqq] at hq hd1 hd2
   have HQQ := Lib.hid hqq
   clear hqq
   have hl2 : (ints pre).length = pre.length := ints_length _
   go_wp2_with (at_builtin; (refine wpList_append_ints rfl (.tmp 39) (.tmp 41) 26 rfl w.heap.size 3 i0 Try.underlying26 hi hz0 hz1 hz2 _ pre.length (ints pre) rfl (hown.alloc _) _ 1 1 wr.heap.size 0 [(q : Int)] rfl (ints1 (Box.new _ _ 3)) (by omega) (by have := hb.size; simp; omega) ?_))
   intro v' w' hown' hgrow'
   have hbn : Below w.heap.size w w' := Below.grown (Below.al hb _) hgrow' (by have := hb.size; simp; omega) (fun k hk => (hown.lt k hk).1)
   obtain ⟨av, cv, rfl⟩ := own_slice hown'
   go_wp2
   go_roundw
   case rel =>
    refine ⟨m, R' - q, pre ++ [q], by go_num, by go_num, by omega, by omega, Lib.hid ?_, by simp; omega, ?_, hbn⟩
    ·rw [hs.out, List.append_assoc]
     rw [sizesOf_succ, HQQ.out]
     rfl
    ·rw [ints_snoc, List.length_append]
     simpa using hown'
   case measure => simp [intOf]
end Go.Proofs.Ytchngeagnlngaaa
end
