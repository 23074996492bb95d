/- Texts joined: RLay1. -/
import Derived.Test.YtchngeagnlngaaaGreatDoorJ07
import Derived.Test.YtchngeagnlngaaaGreatDoorJ13
import Derived.Test.YtchngeagnlngaaaGreatDoorJ05
set_option linter.unusedVariables false
set_option linter.unusedSimpArgs false
set_option linter.unusedSectionVars false
section
namespace Go.Proofs.YtchngeagnlngaaaGreatDoor
open Go.RowKit Gal
set_option maxRecDepth 100000
set_option maxHeartbeats 2000000
theorem refNone_any (r c:Int) (a:Option Addr) (n k:Nat) (w:World):Calls Tryz.prog 67 #[.agg #[.int .i64 r,.int .i64 c,.slice a n k]] w fun e w'=>e=.returned (.bool (decide (r=0∧c=0)))∧Below w.heap.size w w':=by
 by_cases h1:r=0
 ·by_cases h2:c=0
  ·subst h1 h2
   rw [decide_eq_true ⟨rfl,rfl⟩]
   go_enter Tryz.func67,Tryz.ntmps67
   go_wp2
   go_ret
   exact ⟨rfl,Below.x0⟩
  ·subst h1
   rw [decide_eq_false (fun h=>h2 h.2)]
   have q:(c == 0)=false:=by simp [h2]
   clear h2
   go_enter Tryz.func67,Tryz.ntmps67
   go_wp2
   go_ret
   exact ⟨rfl,Below.x0⟩
 ·rw [decide_eq_false (fun h=>h1 h.1)]
  have q:(r == 0)=false:=by simp [h1]
  clear h1
  go_enter Tryz.func67,Tryz.ntmps67
  go_wp2
  go_ret
  exact ⟨rfl,Below.x0⟩
section
variable (kd:Int) (W B:Mat) (a a':Option Addr) (n n' k k' b b' o o':Nat) (w:World) (x0:IntsAt w a n k b o W.cells) (x1:IntsAt w a' n' k' b' o' B.cells)
include x0 x1
theorem refLayerFault_kind (h:kd<1∨4<kd) :
  Calls Tryz.prog 38 #[.agg #[.int .i64 kd,.int .i64 W.rows,.int .i64 W.cols,.slice a n k,.int .i64 B.rows,.int .i64 B.cols,.slice a' n' k']] w fun e w'=>e=.returned (.int .i64 (Lay.fault ⟨kd,W,B⟩))∧Below w.heap.size w w'
 := by
 rw [show Lay.fault ⟨kd,W,B⟩=1 from if_pos h]
 rcases h with h|h
 ·go_enter Tryz.func38,Tryz.ntmps38
  go_wp2
  go_ret
  exact ⟨rfl,Below.x0⟩
 ·go_enter Tryz.func38,Tryz.ntmps38
  go_wp2
  go_ret
  exact ⟨rfl,Below.x0⟩
theorem refLayerFault_W (h:1≤kd) (h':kd≤4) (fw:W.fault≠0) :
  Calls Tryz.prog 38 #[.agg #[.int .i64 kd,.int .i64 W.rows,.int .i64 W.cols,.slice a n k,.int .i64 B.rows,.int .i64 B.cols,.slice a' n' k']] w fun e w'=>e=.returned (.int .i64 (Lay.fault ⟨kd,W,B⟩))∧Below w.heap.size w w'
 := by
 have HF:Hid (Lay.fault ⟨kd,W,B⟩=W.fault):=Lib.hid (by unfold Lay.fault;rw [if_neg (by dsimp only;omega),if_pos fw])
 have q1:(W.fault == 0)=false:=by simp [fw]
 have q2:(W.fault != 0)=true:=by simp [fw]
 clear fw
 rw [HF.out]
 go_enter Tryz.func38,Tryz.ntmps38
 go_wp2_with fail
 refine (refMatFault_any W _ _ (MatAt.mk (x0.alloc _))).mono ?_
 rintro e w1 ⟨rfl,hb1⟩
 go_wp2
 go_ret
 exact ⟨rfl,(Below.x1 hb1)⟩
theorem refLayerFault_B (h:1≤kd) (h':kd≤4) (fw:W.fault=0) (fb:B.fault≠0) :
  Calls Tryz.prog 38 #[.agg #[.int .i64 kd,.int .i64 W.rows,.int .i64 W.cols,.slice a n k,.int .i64 B.rows,.int .i64 B.cols,.slice a' n' k']] w fun e w'=>e=.returned (.int .i64 (Lay.fault ⟨kd,W,B⟩))∧Below w.heap.size w w'
 := by
 have HF:Hid (Lay.fault ⟨kd,W,B⟩=B.fault):=Lib.hid (by unfold Lay.fault;rw [if_neg (by dsimp only;omega),if_neg (by simp [fw]),if_pos fb])
 have HW:=Lib.hid fw
 have q1:(B.fault == 0)=false:=by simp [fb]
 have q2:(B.fault != 0)=true:=by simp [fb]
 clear fw fb
 rw [HF.out]
 go_enter Tryz.func38,Tryz.ntmps38
 go_wp2_with fail
 refine (refMatFault_any W _ _ (MatAt.mk (x0.alloc _))).mono ?_
 rw [HW.out]
 rintro e w1 ⟨rfl,hb1⟩
 have B0:=((show Box _ w.heap.size [.int .i64 kd,.int .i64 W.rows,.int .i64 W.cols,.slice a n k,.int .i64 B.rows,.int .i64 B.cols,.slice a' n' k'] 84 from Box.x0)).keep hb1
 have B0c:=B0.cell
 have B0f:=B0.thawed
 have B0z:=B0.lt
 have B0k:=lt_add B0z
 have hkw1:Below w.heap.size w w1:=(Below.x1 hb1)
 replace x1:=x1.keep hkw1
 have hsw1:=hkw1.size
 go_wp2_with fail
 refine (refMatFault_any B _ _ (MatAt.mk x1)).mono ?_
 rintro e w2 ⟨rfl,hb2⟩
 go_wp2
 go_ret
 exact ⟨rfl,(Below.x2 hb2 hb1)⟩
theorem refLayerFault_1 (fw:W.fault=0) (fb:B.fault=0) :
  Calls Tryz.prog 38 #[.agg #[.int .i64 1,.int .i64 W.rows,.int .i64 W.cols,.slice a n k,.int .i64 B.rows,.int .i64 B.cols,.slice a' n' k']] w fun e w'=>e=.returned (.int .i64 (Lay.fault ⟨1,W,B⟩))∧Below w.heap.size w w'
 := by
 have HF:Hid (Lay.fault ⟨1,W,B⟩=if Lay.fits ⟨1,W,B⟩ then 0 else 2):=Lib.hid (by unfold Lay.fault;rw [if_neg (by dsimp only;omega),if_neg (by simp [fw]),if_neg (by simp [fb])])
 have HW:=Lib.hid fw
 have HB:=Lib.hid fb
 clear fw fb
 rw [HF.out]
 obtain ⟨bw,hbw⟩:∃ bw,decide (W.rows=0∧W.cols=0)=bw:=⟨_,rfl⟩
 obtain ⟨bb,hbb⟩:∃ bb,decide (B.rows=0∧B.cols=0)=bb:=⟨_,rfl⟩
 have HNW:=Lib.hid hbw
 have HNB:=Lib.hid hbb
 clear hbw hbb
 have key:∀ c:Bool,Calls Tryz.prog 38 #[.agg #[.int .i64 1,.int .i64 W.rows,.int .i64 W.cols,.slice a n k,.int .i64 B.rows,.int .i64 B.cols,.slice a' n' k']] w fun e w'=>e=.returned (.int .i64 (if Lay.fits ⟨1,W,B⟩ then 0 else 2))∧Below w.heap.size w w':=by
  intro c
  by_cases h1:1≤W.rows
  ·by_cases h2:W.rows≤12
   ·by_cases h3:1≤W.cols
    ·by_cases h4:B.rows=1
     ·by_cases h5:B.cols=W.cols
      ·skip
       rw [if_pos (by unfold Lay.fits Mat.empty;dsimp only;omega)]
       have q4:(B.rows == 1)=true:=by simp [h4]
       have q5:(B.cols == W.cols)=true:=by simp [h5]
       clear h4 h5
       cases bw <;> skip
       all_goals (
        go_enter Tryz.func38,Tryz.ntmps38
        go_wp2_with fail
        refine (refMatFault_any W _ _ (MatAt.mk (x0.alloc _))).mono ?_
        rw [HW.out]
        rintro e w1 ⟨rfl,hb1⟩
        have B0:=((show Box _ w.heap.size [.int .i64 1,.int .i64 W.rows,.int .i64 W.cols,.slice a n k,.int .i64 B.rows,.int .i64 B.cols,.slice a' n' k'] 84 from Box.x0)).keep hb1
        have B0c:=B0.cell
        have B0f:=B0.thawed
        have B0z:=B0.lt
        have B0k:=lt_add B0z
        have hkw1:Below w.heap.size w w1:=(Below.x1 hb1)
        replace x1:=x1.keep hkw1
        have hsw1:=hkw1.size
        go_wp2_with fail
        refine (refMatFault_any B _ _ (MatAt.mk x1)).mono ?_
        rw [HB.out]
        rintro e w2 ⟨rfl,hb2⟩
        have hkw2:Below w1.heap.size w1 w2:=(Below.x1 hb2)
        replace B0:=B0.keep hkw2
        replace B0c:=B0.cell
        replace B0f:=B0.thawed
        replace B0z:=B0.lt
        replace B0k:=lt_add B0z
        have hsw2:=hkw2.size
        go_wp2_with fail
        refine (refNone_any W.rows W.cols _ _ _ _).mono ?_
        rw [HNW.out]
        rintro e w3 ⟨rfl,hb3⟩
        have hkw3:Below w2.heap.size w2 w3:=(Below.x1 hb3)
        replace B0:=B0.keep hkw3
        replace B0c:=B0.cell
        replace B0f:=B0.thawed
        replace B0z:=B0.lt
        replace B0k:=lt_add B0z
        have hsw3:=hkw3.size
        go_wp2_with fail
        refine (refNone_any B.rows B.cols _ _ _ _).mono ?_
        rw [HNB.out]
        rintro e w4 ⟨rfl,hb4⟩
        have hkw4:Below w3.heap.size w3 w4:=(Below.x1 hb4)
        replace B0:=B0.keep hkw4
        replace B0c:=B0.cell
        replace B0f:=B0.thawed
        replace B0z:=B0.lt
        replace B0k:=lt_add B0z
        have hsw4:=hkw4.size
        go_wp2
        go_ret
        exact ⟨rfl,(by repeat (first|(with_reducible first|exact Below.refl _ _|refine Below.al ?_ _|refine Below.drN ?_ _|refine Below.drew ?_|refine Below.sx ?_ _|refine Below.go ?_ hb4|refine Below.go ?_ hb3|refine Below.go ?_ hb2|refine Below.go ?_ hb1)|exact Below.refl _ _))⟩
       )
      ·skip
       rw [if_neg (by unfold Lay.fits Mat.empty;dsimp only;omega)]
       have q4:(B.rows == 1)=true:=by simp [h4]
       have q5:(B.cols == W.cols)=false:=by simp [h5]
       clear h4 h5
       cases bw <;> skip
       all_goals (
        go_enter Tryz.func38,Tryz.ntmps38
        go_wp2_with fail
        refine (refMatFault_any W _ _ (MatAt.mk (x0.alloc _))).mono ?_
        rw [HW.out]
        rintro e w1 ⟨rfl,hb1⟩
        have B0:=((show Box _ w.heap.size [.int .i64 1,.int .i64 W.rows,.int .i64 W.cols,.slice a n k,.int .i64 B.rows,.int .i64 B.cols,.slice a' n' k'] 84 from Box.x0)).keep hb1
        have B0c:=B0.cell
        have B0f:=B0.thawed
        have B0z:=B0.lt
        have B0k:=lt_add B0z
        have hkw1:Below w.heap.size w w1:=(Below.x1 hb1)
        replace x1:=x1.keep hkw1
        have hsw1:=hkw1.size
        go_wp2_with fail
        refine (refMatFault_any B _ _ (MatAt.mk x1)).mono ?_
        rw [HB.out]
        rintro e w2 ⟨rfl,hb2⟩
        have hkw2:Below w1.heap.size w1 w2:=(Below.x1 hb2)
        replace B0:=B0.keep hkw2
        replace B0c:=B0.cell
        replace B0f:=B0.thawed
        replace B0z:=B0.lt
        replace B0k:=lt_add B0z
        have hsw2:=hkw2.size
        go_wp2_with fail
        refine (refNone_any W.rows W.cols _ _ _ _).mono ?_
        rw [HNW.out]
        rintro e w3 ⟨rfl,hb3⟩
        have hkw3:Below w2.heap.size w2 w3:=(Below.x1 hb3)
        replace B0:=B0.keep hkw3
        replace B0c:=B0.cell
        replace B0f:=B0.thawed
        replace B0z:=B0.lt
        replace B0k:=lt_add B0z
        have hsw3:=hkw3.size
        go_wp2_with fail
        refine (refNone_any B.rows B.cols _ _ _ _).mono ?_
        rw [HNB.out]
        rintro e w4 ⟨rfl,hb4⟩
        have hkw4:Below w3.heap.size w3 w4:=(Below.x1 hb4)
        replace B0:=B0.keep hkw4
        replace B0c:=B0.cell
        replace B0f:=B0.thawed
        replace B0z:=B0.lt
        replace B0k:=lt_add B0z
        have hsw4:=hkw4.size
        go_wp2
        go_ret
        exact ⟨rfl,(by repeat (first|(with_reducible first|exact Below.refl _ _|refine Below.al ?_ _|refine Below.drN ?_ _|refine Below.drew ?_|refine Below.sx ?_ _|refine Below.go ?_ hb4|refine Below.go ?_ hb3|refine Below.go ?_ hb2|refine Below.go ?_ hb1)|exact Below.refl _ _))⟩
       )
     ·skip
      rw [if_neg (by unfold Lay.fits Mat.empty;dsimp only;omega)]
      have q4:(B.rows == 1)=false:=by simp [h4]
      clear h4
      cases bw <;> skip
      all_goals (
       go_enter Tryz.func38,Tryz.ntmps38
       go_wp2_with fail
       refine (refMatFault_any W _ _ (MatAt.mk (x0.alloc _))).mono ?_
       rw [HW.out]
       rintro e w1 ⟨rfl,hb1⟩
       have B0:=((show Box _ w.heap.size [.int .i64 1,.int .i64 W.rows,.int .i64 W.cols,.slice a n k,.int .i64 B.rows,.int .i64 B.cols,.slice a' n' k'] 84 from Box.x0)).keep hb1
       have B0c:=B0.cell
       have B0f:=B0.thawed
       have B0z:=B0.lt
       have B0k:=lt_add B0z
       have hkw1:Below w.heap.size w w1:=(Below.x1 hb1)
       replace x1:=x1.keep hkw1
       have hsw1:=hkw1.size
       go_wp2_with fail
       refine (refMatFault_any B _ _ (MatAt.mk x1)).mono ?_
       rw [HB.out]
       rintro e w2 ⟨rfl,hb2⟩
       have hkw2:Below w1.heap.size w1 w2:=(Below.x1 hb2)
       replace B0:=B0.keep hkw2
       replace B0c:=B0.cell
       replace B0f:=B0.thawed
       replace B0z:=B0.lt
       replace B0k:=lt_add B0z
       have hsw2:=hkw2.size
       go_wp2_with fail
       refine (refNone_any W.rows W.cols _ _ _ _).mono ?_
       rw [HNW.out]
       rintro e w3 ⟨rfl,hb3⟩
       have hkw3:Below w2.heap.size w2 w3:=(Below.x1 hb3)
       replace B0:=B0.keep hkw3
       replace B0c:=B0.cell
       replace B0f:=B0.thawed
       replace B0z:=B0.lt
       replace B0k:=lt_add B0z
       have hsw3:=hkw3.size
       go_wp2_with fail
       refine (refNone_any B.rows B.cols _ _ _ _).mono ?_
       rw [HNB.out]
       rintro e w4 ⟨rfl,hb4⟩
       have hkw4:Below w3.heap.size w3 w4:=(Below.x1 hb4)
       replace B0:=B0.keep hkw4
       replace B0c:=B0.cell
       replace B0f:=B0.thawed
       replace B0z:=B0.lt
       replace B0k:=lt_add B0z
       have hsw4:=hkw4.size
       go_wp2
       go_ret
       exact ⟨rfl,(by repeat (first|(with_reducible first|exact Below.refl _ _|refine Below.al ?_ _|refine Below.drN ?_ _|refine Below.drew ?_|refine Below.sx ?_ _|refine Below.go ?_ hb4|refine Below.go ?_ hb3|refine Below.go ?_ hb2|refine Below.go ?_ hb1)|exact Below.refl _ _))⟩
      )
    ·skip
     rw [if_neg (by unfold Lay.fits Mat.empty;dsimp only;omega)]
     cases bw <;> skip
     all_goals (
      go_enter Tryz.func38,Tryz.ntmps38
      go_wp2_with fail
      refine (refMatFault_any W _ _ (MatAt.mk (x0.alloc _))).mono ?_
      rw [HW.out]
      rintro e w1 ⟨rfl,hb1⟩
      have B0:=((show Box _ w.heap.size [.int .i64 1,.int .i64 W.rows,.int .i64 W.cols,.slice a n k,.int .i64 B.rows,.int .i64 B.cols,.slice a' n' k'] 84 from Box.x0)).keep hb1
      have B0c:=B0.cell
      have B0f:=B0.thawed
      have B0z:=B0.lt
      have B0k:=lt_add B0z
      have hkw1:Below w.heap.size w w1:=(Below.x1 hb1)
      replace x1:=x1.keep hkw1
      have hsw1:=hkw1.size
      go_wp2_with fail
      refine (refMatFault_any B _ _ (MatAt.mk x1)).mono ?_
      rw [HB.out]
      rintro e w2 ⟨rfl,hb2⟩
      have hkw2:Below w1.heap.size w1 w2:=(Below.x1 hb2)
      replace B0:=B0.keep hkw2
      replace B0c:=B0.cell
      replace B0f:=B0.thawed
      replace B0z:=B0.lt
      replace B0k:=lt_add B0z
      have hsw2:=hkw2.size
      go_wp2_with fail
      refine (refNone_any W.rows W.cols _ _ _ _).mono ?_
      rw [HNW.out]
      rintro e w3 ⟨rfl,hb3⟩
      have hkw3:Below w2.heap.size w2 w3:=(Below.x1 hb3)
      replace B0:=B0.keep hkw3
      replace B0c:=B0.cell
      replace B0f:=B0.thawed
      replace B0z:=B0.lt
      replace B0k:=lt_add B0z
      have hsw3:=hkw3.size
      go_wp2_with fail
      refine (refNone_any B.rows B.cols _ _ _ _).mono ?_
      rw [HNB.out]
      rintro e w4 ⟨rfl,hb4⟩
      have hkw4:Below w3.heap.size w3 w4:=(Below.x1 hb4)
      replace B0:=B0.keep hkw4
      replace B0c:=B0.cell
      replace B0f:=B0.thawed
      replace B0z:=B0.lt
      replace B0k:=lt_add B0z
      have hsw4:=hkw4.size
      go_wp2
      go_ret
      exact ⟨rfl,(by repeat (first|(with_reducible first|exact Below.refl _ _|refine Below.al ?_ _|refine Below.drN ?_ _|refine Below.drew ?_|refine Below.sx ?_ _|refine Below.go ?_ hb4|refine Below.go ?_ hb3|refine Below.go ?_ hb2|refine Below.go ?_ hb1)|exact Below.refl _ _))⟩
     )
   ·skip
    rw [if_neg (by unfold Lay.fits Mat.empty;dsimp only;omega)]
    cases bw <;> skip
    all_goals (
     go_enter Tryz.func38,Tryz.ntmps38
     go_wp2_with fail
     refine (refMatFault_any W _ _ (MatAt.mk (x0.alloc _))).mono ?_
     rw [HW.out]
     rintro e w1 ⟨rfl,hb1⟩
     have B0:=((show Box _ w.heap.size [.int .i64 1,.int .i64 W.rows,.int .i64 W.cols,.slice a n k,.int .i64 B.rows,.int .i64 B.cols,.slice a' n' k'] 84 from Box.x0)).keep hb1
     have B0c:=B0.cell
     have B0f:=B0.thawed
     have B0z:=B0.lt
     have B0k:=lt_add B0z
     have hkw1:Below w.heap.size w w1:=(Below.x1 hb1)
     replace x1:=x1.keep hkw1
     have hsw1:=hkw1.size
     go_wp2_with fail
     refine (refMatFault_any B _ _ (MatAt.mk x1)).mono ?_
     rw [HB.out]
     rintro e w2 ⟨rfl,hb2⟩
     have hkw2:Below w1.heap.size w1 w2:=(Below.x1 hb2)
     replace B0:=B0.keep hkw2
     replace B0c:=B0.cell
     replace B0f:=B0.thawed
     replace B0z:=B0.lt
     replace B0k:=lt_add B0z
     have hsw2:=hkw2.size
     go_wp2_with fail
     refine (refNone_any W.rows W.cols _ _ _ _).mono ?_
     rw [HNW.out]
     rintro e w3 ⟨rfl,hb3⟩
     have hkw3:Below w2.heap.size w2 w3:=(Below.x1 hb3)
     replace B0:=B0.keep hkw3
     replace B0c:=B0.cell
     replace B0f:=B0.thawed
     replace B0z:=B0.lt
     replace B0k:=lt_add B0z
     have hsw3:=hkw3.size
     go_wp2_with fail
     refine (refNone_any B.rows B.cols _ _ _ _).mono ?_
     rw [HNB.out]
     rintro e w4 ⟨rfl,hb4⟩
     have hkw4:Below w3.heap.size w3 w4:=(Below.x1 hb4)
     replace B0:=B0.keep hkw4
     replace B0c:=B0.cell
     replace B0f:=B0.thawed
     replace B0z:=B0.lt
     replace B0k:=lt_add B0z
     have hsw4:=hkw4.size
     go_wp2
     go_ret
     exact ⟨rfl,(by repeat (first|(with_reducible first|exact Below.refl _ _|refine Below.al ?_ _|refine Below.drN ?_ _|refine Below.drew ?_|refine Below.sx ?_ _|refine Below.go ?_ hb4|refine Below.go ?_ hb3|refine Below.go ?_ hb2|refine Below.go ?_ hb1)|exact Below.refl _ _))⟩
    )
  ·skip
   rw [if_neg (by unfold Lay.fits Mat.empty;dsimp only;omega)]
   cases bw <;> skip
   all_goals (
    go_enter Tryz.func38,Tryz.ntmps38
    go_wp2_with fail
    refine (refMatFault_any W _ _ (MatAt.mk (x0.alloc _))).mono ?_
    rw [HW.out]
    rintro e w1 ⟨rfl,hb1⟩
    have B0:=((show Box _ w.heap.size [.int .i64 1,.int .i64 W.rows,.int .i64 W.cols,.slice a n k,.int .i64 B.rows,.int .i64 B.cols,.slice a' n' k'] 84 from Box.x0)).keep hb1
    have B0c:=B0.cell
    have B0f:=B0.thawed
    have B0z:=B0.lt
    have B0k:=lt_add B0z
    have hkw1:Below w.heap.size w w1:=(Below.x1 hb1)
    replace x1:=x1.keep hkw1
    have hsw1:=hkw1.size
    go_wp2_with fail
    refine (refMatFault_any B _ _ (MatAt.mk x1)).mono ?_
    rw [HB.out]
    rintro e w2 ⟨rfl,hb2⟩
    have hkw2:Below w1.heap.size w1 w2:=(Below.x1 hb2)
    replace B0:=B0.keep hkw2
    replace B0c:=B0.cell
    replace B0f:=B0.thawed
    replace B0z:=B0.lt
    replace B0k:=lt_add B0z
    have hsw2:=hkw2.size
    go_wp2_with fail
    refine (refNone_any W.rows W.cols _ _ _ _).mono ?_
    rw [HNW.out]
    rintro e w3 ⟨rfl,hb3⟩
    have hkw3:Below w2.heap.size w2 w3:=(Below.x1 hb3)
    replace B0:=B0.keep hkw3
    replace B0c:=B0.cell
    replace B0f:=B0.thawed
    replace B0z:=B0.lt
    replace B0k:=lt_add B0z
    have hsw3:=hkw3.size
    go_wp2_with fail
    refine (refNone_any B.rows B.cols _ _ _ _).mono ?_
    rw [HNB.out]
    rintro e w4 ⟨rfl,hb4⟩
    have hkw4:Below w3.heap.size w3 w4:=(Below.x1 hb4)
    replace B0:=B0.keep hkw4
    replace B0c:=B0.cell
    replace B0f:=B0.thawed
    replace B0z:=B0.lt
    replace B0k:=lt_add B0z
    have hsw4:=hkw4.size
    go_wp2
    go_ret
    exact ⟨rfl,(by repeat (first|(with_reducible first|exact Below.refl _ _|refine Below.al ?_ _|refine Below.drN ?_ _|refine Below.drew ?_|refine Below.sx ?_ _|refine Below.go ?_ hb4|refine Below.go ?_ hb3|refine Below.go ?_ hb2|refine Below.go ?_ hb1)|exact Below.refl _ _))⟩
   )
 exact key true
theorem refLayerFault_2 (fw:W.fault=0) (fb:B.fault=0) :
  Calls Tryz.prog 38 #[.agg #[.int .i64 2,.int .i64 W.rows,.int .i64 W.cols,.slice a n k,.int .i64 B.rows,.int .i64 B.cols,.slice a' n' k']] w fun e w'=>e=.returned (.int .i64 (Lay.fault ⟨2,W,B⟩))∧Below w.heap.size w w'
 := by
 have HF:Hid (Lay.fault ⟨2,W,B⟩=if Lay.fits ⟨2,W,B⟩ then 0 else 2):=Lib.hid (by unfold Lay.fault;rw [if_neg (by dsimp only;omega),if_neg (by simp [fw]),if_neg (by simp [fb])])
 have HW:=Lib.hid fw
 have HB:=Lib.hid fb
 clear fw fb
 rw [HF.out]
 by_cases h1:W.rows=0∧W.cols=0
 ·by_cases h2:B.rows=0∧B.cols=0
  ·skip
   rw [if_pos (by unfold Lay.fits Mat.empty;dsimp only;omega)]
   have HNW:=Lib.hid (decide_eq_true h1)
   have HNB:=Lib.hid (decide_eq_true h2)
   clear h1 h2
   go_enter Tryz.func38,Tryz.ntmps38
   go_wp2_with fail
   refine (refMatFault_any W _ _ (MatAt.mk (x0.alloc _))).mono ?_
   rw [HW.out]
   rintro e w1 ⟨rfl,hb1⟩
   have B0:=((show Box _ w.heap.size [.int .i64 2,.int .i64 W.rows,.int .i64 W.cols,.slice a n k,.int .i64 B.rows,.int .i64 B.cols,.slice a' n' k'] 84 from Box.x0)).keep hb1
   have B0c:=B0.cell
   have B0f:=B0.thawed
   have B0z:=B0.lt
   have B0k:=lt_add B0z
   have hkw1:Below w.heap.size w w1:=(Below.x1 hb1)
   replace x1:=x1.keep hkw1
   have hsw1:=hkw1.size
   go_wp2_with fail
   refine (refMatFault_any B _ _ (MatAt.mk x1)).mono ?_
   rw [HB.out]
   rintro e w2 ⟨rfl,hb2⟩
   have hkw2:Below w1.heap.size w1 w2:=(Below.x1 hb2)
   replace B0:=B0.keep hkw2
   replace B0c:=B0.cell
   replace B0f:=B0.thawed
   replace B0z:=B0.lt
   replace B0k:=lt_add B0z
   have hsw2:=hkw2.size
   go_wp2_with fail
   refine (refNone_any W.rows W.cols _ _ _ _).mono ?_
   rw [HNW.out]
   rintro e w3 ⟨rfl,hb3⟩
   have hkw3:Below w2.heap.size w2 w3:=(Below.x1 hb3)
   replace B0:=B0.keep hkw3
   replace B0c:=B0.cell
   replace B0f:=B0.thawed
   replace B0z:=B0.lt
   replace B0k:=lt_add B0z
   have hsw3:=hkw3.size
   go_wp2_with fail
   refine (refNone_any B.rows B.cols _ _ _ _).mono ?_
   rw [HNB.out]
   rintro e w4 ⟨rfl,hb4⟩
   have hkw4:Below w3.heap.size w3 w4:=(Below.x1 hb4)
   replace B0:=B0.keep hkw4
   replace B0c:=B0.cell
   replace B0f:=B0.thawed
   replace B0z:=B0.lt
   replace B0k:=lt_add B0z
   have hsw4:=hkw4.size
   go_wp2
   go_ret
   exact ⟨rfl,(by repeat (first|(with_reducible first|exact Below.refl _ _|refine Below.al ?_ _|refine Below.drN ?_ _|refine Below.drew ?_|refine Below.sx ?_ _|refine Below.go ?_ hb4|refine Below.go ?_ hb3|refine Below.go ?_ hb2|refine Below.go ?_ hb1)|exact Below.refl _ _))⟩
  ·skip
   rw [if_neg (by unfold Lay.fits Mat.empty;dsimp only;omega)]
   have HNW:=Lib.hid (decide_eq_true h1)
   have HNB:=Lib.hid (decide_eq_false h2)
   clear h1 h2
   go_enter Tryz.func38,Tryz.ntmps38
   go_wp2_with fail
   refine (refMatFault_any W _ _ (MatAt.mk (x0.alloc _))).mono ?_
   rw [HW.out]
   rintro e w1 ⟨rfl,hb1⟩
   have B0:=((show Box _ w.heap.size [.int .i64 2,.int .i64 W.rows,.int .i64 W.cols,.slice a n k,.int .i64 B.rows,.int .i64 B.cols,.slice a' n' k'] 84 from Box.x0)).keep hb1
   have B0c:=B0.cell
   have B0f:=B0.thawed
   have B0z:=B0.lt
   have B0k:=lt_add B0z
   have hkw1:Below w.heap.size w w1:=(Below.x1 hb1)
   replace x1:=x1.keep hkw1
   have hsw1:=hkw1.size
   go_wp2_with fail
   refine (refMatFault_any B _ _ (MatAt.mk x1)).mono ?_
   rw [HB.out]
   rintro e w2 ⟨rfl,hb2⟩
   have hkw2:Below w1.heap.size w1 w2:=(Below.x1 hb2)
   replace B0:=B0.keep hkw2
   replace B0c:=B0.cell
   replace B0f:=B0.thawed
   replace B0z:=B0.lt
   replace B0k:=lt_add B0z
   have hsw2:=hkw2.size
   go_wp2_with fail
   refine (refNone_any W.rows W.cols _ _ _ _).mono ?_
   rw [HNW.out]
   rintro e w3 ⟨rfl,hb3⟩
   have hkw3:Below w2.heap.size w2 w3:=(Below.x1 hb3)
   replace B0:=B0.keep hkw3
   replace B0c:=B0.cell
   replace B0f:=B0.thawed
   replace B0z:=B0.lt
   replace B0k:=lt_add B0z
   have hsw3:=hkw3.size
   go_wp2_with fail
   refine (refNone_any B.rows B.cols _ _ _ _).mono ?_
   rw [HNB.out]
   rintro e w4 ⟨rfl,hb4⟩
   have hkw4:Below w3.heap.size w3 w4:=(Below.x1 hb4)
   replace B0:=B0.keep hkw4
   replace B0c:=B0.cell
   replace B0f:=B0.thawed
   replace B0z:=B0.lt
   replace B0k:=lt_add B0z
   have hsw4:=hkw4.size
   go_wp2
   go_ret
   exact ⟨rfl,(by repeat (first|(with_reducible first|exact Below.refl _ _|refine Below.al ?_ _|refine Below.drN ?_ _|refine Below.drew ?_|refine Below.sx ?_ _|refine Below.go ?_ hb4|refine Below.go ?_ hb3|refine Below.go ?_ hb2|refine Below.go ?_ hb1)|exact Below.refl _ _))⟩
 ·skip
  rw [if_neg (by unfold Lay.fits Mat.empty;dsimp only;omega)]
  obtain ⟨bb,hbb⟩:∃ bb,decide (B.rows=0∧B.cols=0)=bb:=⟨_,rfl⟩
  have HNW:=Lib.hid (decide_eq_false h1)
  have HNB:=Lib.hid hbb
  clear h1 hbb
  go_enter Tryz.func38,Tryz.ntmps38
  go_wp2_with fail
  refine (refMatFault_any W _ _ (MatAt.mk (x0.alloc _))).mono ?_
  rw [HW.out]
  rintro e w1 ⟨rfl,hb1⟩
  have B0:=((show Box _ w.heap.size [.int .i64 2,.int .i64 W.rows,.int .i64 W.cols,.slice a n k,.int .i64 B.rows,.int .i64 B.cols,.slice a' n' k'] 84 from Box.x0)).keep hb1
  have B0c:=B0.cell
  have B0f:=B0.thawed
  have B0z:=B0.lt
  have B0k:=lt_add B0z
  have hkw1:Below w.heap.size w w1:=(Below.x1 hb1)
  replace x1:=x1.keep hkw1
  have hsw1:=hkw1.size
  go_wp2_with fail
  refine (refMatFault_any B _ _ (MatAt.mk x1)).mono ?_
  rw [HB.out]
  rintro e w2 ⟨rfl,hb2⟩
  have hkw2:Below w1.heap.size w1 w2:=(Below.x1 hb2)
  replace B0:=B0.keep hkw2
  replace B0c:=B0.cell
  replace B0f:=B0.thawed
  replace B0z:=B0.lt
  replace B0k:=lt_add B0z
  have hsw2:=hkw2.size
  go_wp2_with fail
  refine (refNone_any W.rows W.cols _ _ _ _).mono ?_
  rw [HNW.out]
  rintro e w3 ⟨rfl,hb3⟩
  have hkw3:Below w2.heap.size w2 w3:=(Below.x1 hb3)
  replace B0:=B0.keep hkw3
  replace B0c:=B0.cell
  replace B0f:=B0.thawed
  replace B0z:=B0.lt
  replace B0k:=lt_add B0z
  have hsw3:=hkw3.size
  go_wp2_with fail
  refine (refNone_any B.rows B.cols _ _ _ _).mono ?_
  rw [HNB.out]
  rintro e w4 ⟨rfl,hb4⟩
  have hkw4:Below w3.heap.size w3 w4:=(Below.x1 hb4)
  replace B0:=B0.keep hkw4
  replace B0c:=B0.cell
  replace B0f:=B0.thawed
  replace B0z:=B0.lt
  replace B0k:=lt_add B0z
  have hsw4:=hkw4.size
  go_wp2
  go_ret
  exact ⟨rfl,(by repeat (first|(with_reducible first|exact Below.refl _ _|refine Below.al ?_ _|refine Below.drN ?_ _|refine Below.drew ?_|refine Below.sx ?_ _|refine Below.go ?_ hb4|refine Below.go ?_ hb3|refine Below.go ?_ hb2|refine Below.go ?_ hb1)|exact Below.refl _ _))⟩
theorem refLayerFault_3 (fw:W.fault=0) (fb:B.fault=0) :
  Calls Tryz.prog 38 #[.agg #[.int .i64 3,.int .i64 W.rows,.int .i64 W.cols,.slice a n k,.int .i64 B.rows,.int .i64 B.cols,.slice a' n' k']] w fun e w'=>e=.returned (.int .i64 (Lay.fault ⟨3,W,B⟩))∧Below w.heap.size w w'
 := by
 have HF:Hid (Lay.fault ⟨3,W,B⟩=if Lay.fits ⟨3,W,B⟩ then 0 else 2):=Lib.hid (by unfold Lay.fault;rw [if_neg (by dsimp only;omega),if_neg (by simp [fw]),if_neg (by simp [fb])])
 have HW:=Lib.hid fw
 have HB:=Lib.hid fb
 clear fw fb
 rw [HF.out]
 obtain ⟨bw,hbw⟩:∃ bw,decide (W.rows=0∧W.cols=0)=bw:=⟨_,rfl⟩
 have HNW:=Lib.hid hbw
 clear hbw
 by_cases h0:W.rows=1
 ·by_cases h1:W.cols=1
  ·have q0:(W.rows == 1)=true:=by simp [h0]
   have q1:(W.cols == 1)=true:=by simp [h1]
   by_cases h2:B.rows=0∧B.cols=0
   ·skip
    rw [if_pos (by unfold Lay.fits Mat.empty;dsimp only;omega)]
    have HNB:=Lib.hid (decide_eq_true h2)
    clear h0 h1 h2
    cases bw <;> skip
    all_goals (
     go_enter Tryz.func38,Tryz.ntmps38
     go_wp2_with fail
     refine (refMatFault_any W _ _ (MatAt.mk (x0.alloc _))).mono ?_
     rw [HW.out]
     rintro e w1 ⟨rfl,hb1⟩
     have B0:=((show Box _ w.heap.size [.int .i64 3,.int .i64 W.rows,.int .i64 W.cols,.slice a n k,.int .i64 B.rows,.int .i64 B.cols,.slice a' n' k'] 84 from Box.x0)).keep hb1
     have B0c:=B0.cell
     have B0f:=B0.thawed
     have B0z:=B0.lt
     have B0k:=lt_add B0z
     have hkw1:Below w.heap.size w w1:=(Below.x1 hb1)
     replace x1:=x1.keep hkw1
     have hsw1:=hkw1.size
     go_wp2_with fail
     refine (refMatFault_any B _ _ (MatAt.mk x1)).mono ?_
     rw [HB.out]
     rintro e w2 ⟨rfl,hb2⟩
     have hkw2:Below w1.heap.size w1 w2:=(Below.x1 hb2)
     replace B0:=B0.keep hkw2
     replace B0c:=B0.cell
     replace B0f:=B0.thawed
     replace B0z:=B0.lt
     replace B0k:=lt_add B0z
     have hsw2:=hkw2.size
     go_wp2_with fail
     refine (refNone_any W.rows W.cols _ _ _ _).mono ?_
     rw [HNW.out]
     rintro e w3 ⟨rfl,hb3⟩
     have hkw3:Below w2.heap.size w2 w3:=(Below.x1 hb3)
     replace B0:=B0.keep hkw3
     replace B0c:=B0.cell
     replace B0f:=B0.thawed
     replace B0z:=B0.lt
     replace B0k:=lt_add B0z
     have hsw3:=hkw3.size
     go_wp2_with fail
     refine (refNone_any B.rows B.cols _ _ _ _).mono ?_
     rw [HNB.out]
     rintro e w4 ⟨rfl,hb4⟩
     have hkw4:Below w3.heap.size w3 w4:=(Below.x1 hb4)
     replace B0:=B0.keep hkw4
     replace B0c:=B0.cell
     replace B0f:=B0.thawed
     replace B0z:=B0.lt
     replace B0k:=lt_add B0z
     have hsw4:=hkw4.size
     go_wp2
     go_ret
     exact ⟨rfl,(by repeat (first|(with_reducible first|exact Below.refl _ _|refine Below.al ?_ _|refine Below.drN ?_ _|refine Below.drew ?_|refine Below.sx ?_ _|refine Below.go ?_ hb4|refine Below.go ?_ hb3|refine Below.go ?_ hb2|refine Below.go ?_ hb1)|exact Below.refl _ _))⟩
    )
   ·skip
    rw [if_neg (by unfold Lay.fits Mat.empty;dsimp only;omega)]
    have HNB:=Lib.hid (decide_eq_false h2)
    clear h0 h1 h2
    cases bw <;> skip
    all_goals (
     go_enter Tryz.func38,Tryz.ntmps38
     go_wp2_with fail
     refine (refMatFault_any W _ _ (MatAt.mk (x0.alloc _))).mono ?_
     rw [HW.out]
     rintro e w1 ⟨rfl,hb1⟩
     have B0:=((show Box _ w.heap.size [.int .i64 3,.int .i64 W.rows,.int .i64 W.cols,.slice a n k,.int .i64 B.rows,.int .i64 B.cols,.slice a' n' k'] 84 from Box.x0)).keep hb1
     have B0c:=B0.cell
     have B0f:=B0.thawed
     have B0z:=B0.lt
     have B0k:=lt_add B0z
     have hkw1:Below w.heap.size w w1:=(Below.x1 hb1)
     replace x1:=x1.keep hkw1
     have hsw1:=hkw1.size
     go_wp2_with fail
     refine (refMatFault_any B _ _ (MatAt.mk x1)).mono ?_
     rw [HB.out]
     rintro e w2 ⟨rfl,hb2⟩
     have hkw2:Below w1.heap.size w1 w2:=(Below.x1 hb2)
     replace B0:=B0.keep hkw2
     replace B0c:=B0.cell
     replace B0f:=B0.thawed
     replace B0z:=B0.lt
     replace B0k:=lt_add B0z
     have hsw2:=hkw2.size
     go_wp2_with fail
     refine (refNone_any W.rows W.cols _ _ _ _).mono ?_
     rw [HNW.out]
     rintro e w3 ⟨rfl,hb3⟩
     have hkw3:Below w2.heap.size w2 w3:=(Below.x1 hb3)
     replace B0:=B0.keep hkw3
     replace B0c:=B0.cell
     replace B0f:=B0.thawed
     replace B0z:=B0.lt
     replace B0k:=lt_add B0z
     have hsw3:=hkw3.size
     go_wp2_with fail
     refine (refNone_any B.rows B.cols _ _ _ _).mono ?_
     rw [HNB.out]
     rintro e w4 ⟨rfl,hb4⟩
     have hkw4:Below w3.heap.size w3 w4:=(Below.x1 hb4)
     replace B0:=B0.keep hkw4
     replace B0c:=B0.cell
     replace B0f:=B0.thawed
     replace B0z:=B0.lt
     replace B0k:=lt_add B0z
     have hsw4:=hkw4.size
     go_wp2
     go_ret
     exact ⟨rfl,(by repeat (first|(with_reducible first|exact Below.refl _ _|refine Below.al ?_ _|refine Below.drN ?_ _|refine Below.drew ?_|refine Below.sx ?_ _|refine Below.go ?_ hb4|refine Below.go ?_ hb3|refine Below.go ?_ hb2|refine Below.go ?_ hb1)|exact Below.refl _ _))⟩
    )
  ·skip
   rw [if_neg (by unfold Lay.fits Mat.empty;dsimp only;omega)]
   have q0:(W.rows == 1)=true:=by simp [h0]
   have q1:(W.cols == 1)=false:=by simp [h1]
   obtain ⟨bb,hbb⟩:∃ bb,decide (B.rows=0∧B.cols=0)=bb:=⟨_,rfl⟩
   have HNB:=Lib.hid hbb
   clear h0 h1 hbb
   cases bw <;> skip
   all_goals (
    go_enter Tryz.func38,Tryz.ntmps38
    go_wp2_with fail
    refine (refMatFault_any W _ _ (MatAt.mk (x0.alloc _))).mono ?_
    rw [HW.out]
    rintro e w1 ⟨rfl,hb1⟩
    have B0:=((show Box _ w.heap.size [.int .i64 3,.int .i64 W.rows,.int .i64 W.cols,.slice a n k,.int .i64 B.rows,.int .i64 B.cols,.slice a' n' k'] 84 from Box.x0)).keep hb1
    have B0c:=B0.cell
    have B0f:=B0.thawed
    have B0z:=B0.lt
    have B0k:=lt_add B0z
    have hkw1:Below w.heap.size w w1:=(Below.x1 hb1)
    replace x1:=x1.keep hkw1
    have hsw1:=hkw1.size
    go_wp2_with fail
    refine (refMatFault_any B _ _ (MatAt.mk x1)).mono ?_
    rw [HB.out]
    rintro e w2 ⟨rfl,hb2⟩
    have hkw2:Below w1.heap.size w1 w2:=(Below.x1 hb2)
    replace B0:=B0.keep hkw2
    replace B0c:=B0.cell
    replace B0f:=B0.thawed
    replace B0z:=B0.lt
    replace B0k:=lt_add B0z
    have hsw2:=hkw2.size
    go_wp2_with fail
    refine (refNone_any W.rows W.cols _ _ _ _).mono ?_
    rw [HNW.out]
    rintro e w3 ⟨rfl,hb3⟩
    have hkw3:Below w2.heap.size w2 w3:=(Below.x1 hb3)
    replace B0:=B0.keep hkw3
    replace B0c:=B0.cell
    replace B0f:=B0.thawed
    replace B0z:=B0.lt
    replace B0k:=lt_add B0z
    have hsw3:=hkw3.size
    go_wp2_with fail
    refine (refNone_any B.rows B.cols _ _ _ _).mono ?_
    rw [HNB.out]
    rintro e w4 ⟨rfl,hb4⟩
    have hkw4:Below w3.heap.size w3 w4:=(Below.x1 hb4)
    replace B0:=B0.keep hkw4
    replace B0c:=B0.cell
    replace B0f:=B0.thawed
    replace B0z:=B0.lt
    replace B0k:=lt_add B0z
    have hsw4:=hkw4.size
    go_wp2
    go_ret
    exact ⟨rfl,(by repeat (first|(with_reducible first|exact Below.refl _ _|refine Below.al ?_ _|refine Below.drN ?_ _|refine Below.drew ?_|refine Below.sx ?_ _|refine Below.go ?_ hb4|refine Below.go ?_ hb3|refine Below.go ?_ hb2|refine Below.go ?_ hb1)|exact Below.refl _ _))⟩
   )
 ·skip
  rw [if_neg (by unfold Lay.fits Mat.empty;dsimp only;omega)]
  have q0:(W.rows == 1)=false:=by simp [h0]
  obtain ⟨bb,hbb⟩:∃ bb,decide (B.rows=0∧B.cols=0)=bb:=⟨_,rfl⟩
  have HNB:=Lib.hid hbb
  clear h0 hbb
  cases bw <;> skip
  all_goals (
   go_enter Tryz.func38,Tryz.ntmps38
   go_wp2_with fail
   refine (refMatFault_any W _ _ (MatAt.mk (x0.alloc _))).mono ?_
   rw [HW.out]
   rintro e w1 ⟨rfl,hb1⟩
   have B0:=((show Box _ w.heap.size [.int .i64 3,.int .i64 W.rows,.int .i64 W.cols,.slice a n k,.int .i64 B.rows,.int .i64 B.cols,.slice a' n' k'] 84 from Box.x0)).keep hb1
   have B0c:=B0.cell
   have B0f:=B0.thawed
   have B0z:=B0.lt
   have B0k:=lt_add B0z
   have hkw1:Below w.heap.size w w1:=(Below.x1 hb1)
   replace x1:=x1.keep hkw1
   have hsw1:=hkw1.size
   go_wp2_with fail
   refine (refMatFault_any B _ _ (MatAt.mk x1)).mono ?_
   rw [HB.out]
   rintro e w2 ⟨rfl,hb2⟩
   have hkw2:Below w1.heap.size w1 w2:=(Below.x1 hb2)
   replace B0:=B0.keep hkw2
   replace B0c:=B0.cell
   replace B0f:=B0.thawed
   replace B0z:=B0.lt
   replace B0k:=lt_add B0z
   have hsw2:=hkw2.size
   go_wp2_with fail
   refine (refNone_any W.rows W.cols _ _ _ _).mono ?_
   rw [HNW.out]
   rintro e w3 ⟨rfl,hb3⟩
   have hkw3:Below w2.heap.size w2 w3:=(Below.x1 hb3)
   replace B0:=B0.keep hkw3
   replace B0c:=B0.cell
   replace B0f:=B0.thawed
   replace B0z:=B0.lt
   replace B0k:=lt_add B0z
   have hsw3:=hkw3.size
   go_wp2_with fail
   refine (refNone_any B.rows B.cols _ _ _ _).mono ?_
   rw [HNB.out]
   rintro e w4 ⟨rfl,hb4⟩
   have hkw4:Below w3.heap.size w3 w4:=(Below.x1 hb4)
   replace B0:=B0.keep hkw4
   replace B0c:=B0.cell
   replace B0f:=B0.thawed
   replace B0z:=B0.lt
   replace B0k:=lt_add B0z
   have hsw4:=hkw4.size
   go_wp2
   go_ret
   exact ⟨rfl,(by repeat (first|(with_reducible first|exact Below.refl _ _|refine Below.al ?_ _|refine Below.drN ?_ _|refine Below.drew ?_|refine Below.sx ?_ _|refine Below.go ?_ hb4|refine Below.go ?_ hb3|refine Below.go ?_ hb2|refine Below.go ?_ hb1)|exact Below.refl _ _))⟩
  )
theorem refLayerFault_4 (fw:W.fault=0) (fb:B.fault=0) :
  Calls Tryz.prog 38 #[.agg #[.int .i64 4,.int .i64 W.rows,.int .i64 W.cols,.slice a n k,.int .i64 B.rows,.int .i64 B.cols,.slice a' n' k']] w fun e w'=>e=.returned (.int .i64 (Lay.fault ⟨4,W,B⟩))∧Below w.heap.size w w'
 := by
 have HF:Hid (Lay.fault ⟨4,W,B⟩=if Lay.fits ⟨4,W,B⟩ then 0 else 2):=Lib.hid (by unfold Lay.fault;rw [if_neg (by dsimp only;omega),if_neg (by simp [fw]),if_neg (by simp [fb])])
 have HW:=Lib.hid fw
 have HB:=Lib.hid fb
 clear fw fb
 rw [HF.out]
 obtain ⟨bb,hbb⟩:∃ bb,decide (B.rows=0∧B.cols=0)=bb:=⟨_,rfl⟩
 have HNB:=Lib.hid hbb
 clear hbb
 by_cases h0:W.rows=0∧W.cols=0
 ·by_cases h1:B.rows=1
  ·by_cases h2:1≤B.cols
   ·skip
    rw [if_pos (by unfold Lay.fits Mat.empty;dsimp only;omega)]
    have q1:(B.rows == 1)=true:=by simp [h1]
    have HNW:=Lib.hid (decide_eq_true h0)
    clear h0 h1
    go_enter Tryz.func38,Tryz.ntmps38
    go_wp2_with fail
    refine (refMatFault_any W _ _ (MatAt.mk (x0.alloc _))).mono ?_
    rw [HW.out]
    rintro e w1 ⟨rfl,hb1⟩
    have B0:=((show Box _ w.heap.size [.int .i64 4,.int .i64 W.rows,.int .i64 W.cols,.slice a n k,.int .i64 B.rows,.int .i64 B.cols,.slice a' n' k'] 84 from Box.x0)).keep hb1
    have B0c:=B0.cell
    have B0f:=B0.thawed
    have B0z:=B0.lt
    have B0k:=lt_add B0z
    have hkw1:Below w.heap.size w w1:=(Below.x1 hb1)
    replace x1:=x1.keep hkw1
    have hsw1:=hkw1.size
    go_wp2_with fail
    refine (refMatFault_any B _ _ (MatAt.mk x1)).mono ?_
    rw [HB.out]
    rintro e w2 ⟨rfl,hb2⟩
    have hkw2:Below w1.heap.size w1 w2:=(Below.x1 hb2)
    replace B0:=B0.keep hkw2
    replace B0c:=B0.cell
    replace B0f:=B0.thawed
    replace B0z:=B0.lt
    replace B0k:=lt_add B0z
    have hsw2:=hkw2.size
    go_wp2_with fail
    refine (refNone_any W.rows W.cols _ _ _ _).mono ?_
    rw [HNW.out]
    rintro e w3 ⟨rfl,hb3⟩
    have hkw3:Below w2.heap.size w2 w3:=(Below.x1 hb3)
    replace B0:=B0.keep hkw3
    replace B0c:=B0.cell
    replace B0f:=B0.thawed
    replace B0z:=B0.lt
    replace B0k:=lt_add B0z
    have hsw3:=hkw3.size
    go_wp2_with fail
    refine (refNone_any B.rows B.cols _ _ _ _).mono ?_
    rw [HNB.out]
    rintro e w4 ⟨rfl,hb4⟩
    have hkw4:Below w3.heap.size w3 w4:=(Below.x1 hb4)
    replace B0:=B0.keep hkw4
    replace B0c:=B0.cell
    replace B0f:=B0.thawed
    replace B0z:=B0.lt
    replace B0k:=lt_add B0z
    have hsw4:=hkw4.size
    go_wp2
    go_ret
    exact ⟨rfl,(by repeat (first|(with_reducible first|exact Below.refl _ _|refine Below.al ?_ _|refine Below.drN ?_ _|refine Below.drew ?_|refine Below.sx ?_ _|refine Below.go ?_ hb4|refine Below.go ?_ hb3|refine Below.go ?_ hb2|refine Below.go ?_ hb1)|exact Below.refl _ _))⟩
   ·skip
    rw [if_neg (by unfold Lay.fits Mat.empty;dsimp only;omega)]
    have q2:decide (1≤B.cols)=false:=by simp;omega
    have q1:(B.rows == 1)=true:=by simp [h1]
    have HNW:=Lib.hid (decide_eq_true h0)
    clear h0 h1
    go_enter Tryz.func38,Tryz.ntmps38
    go_wp2_with fail
    refine (refMatFault_any W _ _ (MatAt.mk (x0.alloc _))).mono ?_
    rw [HW.out]
    rintro e w1 ⟨rfl,hb1⟩
    have B0:=((show Box _ w.heap.size [.int .i64 4,.int .i64 W.rows,.int .i64 W.cols,.slice a n k,.int .i64 B.rows,.int .i64 B.cols,.slice a' n' k'] 84 from Box.x0)).keep hb1
    have B0c:=B0.cell
    have B0f:=B0.thawed
    have B0z:=B0.lt
    have B0k:=lt_add B0z
    have hkw1:Below w.heap.size w w1:=(Below.x1 hb1)
    replace x1:=x1.keep hkw1
    have hsw1:=hkw1.size
    go_wp2_with fail
    refine (refMatFault_any B _ _ (MatAt.mk x1)).mono ?_
    rw [HB.out]
    rintro e w2 ⟨rfl,hb2⟩
    have hkw2:Below w1.heap.size w1 w2:=(Below.x1 hb2)
    replace B0:=B0.keep hkw2
    replace B0c:=B0.cell
    replace B0f:=B0.thawed
    replace B0z:=B0.lt
    replace B0k:=lt_add B0z
    have hsw2:=hkw2.size
    go_wp2_with fail
    refine (refNone_any W.rows W.cols _ _ _ _).mono ?_
    rw [HNW.out]
    rintro e w3 ⟨rfl,hb3⟩
    have hkw3:Below w2.heap.size w2 w3:=(Below.x1 hb3)
    replace B0:=B0.keep hkw3
    replace B0c:=B0.cell
    replace B0f:=B0.thawed
    replace B0z:=B0.lt
    replace B0k:=lt_add B0z
    have hsw3:=hkw3.size
    go_wp2_with fail
    refine (refNone_any B.rows B.cols _ _ _ _).mono ?_
    rw [HNB.out]
    rintro e w4 ⟨rfl,hb4⟩
    have hkw4:Below w3.heap.size w3 w4:=(Below.x1 hb4)
    replace B0:=B0.keep hkw4
    replace B0c:=B0.cell
    replace B0f:=B0.thawed
    replace B0z:=B0.lt
    replace B0k:=lt_add B0z
    have hsw4:=hkw4.size
    go_wp2
    go_ret
    exact ⟨rfl,(by repeat (first|(with_reducible first|exact Below.refl _ _|refine Below.al ?_ _|refine Below.drN ?_ _|refine Below.drew ?_|refine Below.sx ?_ _|refine Below.go ?_ hb4|refine Below.go ?_ hb3|refine Below.go ?_ hb2|refine Below.go ?_ hb1)|exact Below.refl _ _))⟩
  ·skip
   rw [if_neg (by unfold Lay.fits Mat.empty;dsimp only;omega)]
   have q1:(B.rows == 1)=false:=by simp [h1]
   have HNW:=Lib.hid (decide_eq_true h0)
   clear h0 h1
   go_enter Tryz.func38,Tryz.ntmps38
   go_wp2_with fail
   refine (refMatFault_any W _ _ (MatAt.mk (x0.alloc _))).mono ?_
   rw [HW.out]
   rintro e w1 ⟨rfl,hb1⟩
   have B0:=((show Box _ w.heap.size [.int .i64 4,.int .i64 W.rows,.int .i64 W.cols,.slice a n k,.int .i64 B.rows,.int .i64 B.cols,.slice a' n' k'] 84 from Box.x0)).keep hb1
   have B0c:=B0.cell
   have B0f:=B0.thawed
   have B0z:=B0.lt
   have B0k:=lt_add B0z
   have hkw1:Below w.heap.size w w1:=(Below.x1 hb1)
   replace x1:=x1.keep hkw1
   have hsw1:=hkw1.size
   go_wp2_with fail
   refine (refMatFault_any B _ _ (MatAt.mk x1)).mono ?_
   rw [HB.out]
   rintro e w2 ⟨rfl,hb2⟩
   have hkw2:Below w1.heap.size w1 w2:=(Below.x1 hb2)
   replace B0:=B0.keep hkw2
   replace B0c:=B0.cell
   replace B0f:=B0.thawed
   replace B0z:=B0.lt
   replace B0k:=lt_add B0z
   have hsw2:=hkw2.size
   go_wp2_with fail
   refine (refNone_any W.rows W.cols _ _ _ _).mono ?_
   rw [HNW.out]
   rintro e w3 ⟨rfl,hb3⟩
   have hkw3:Below w2.heap.size w2 w3:=(Below.x1 hb3)
   replace B0:=B0.keep hkw3
   replace B0c:=B0.cell
   replace B0f:=B0.thawed
   replace B0z:=B0.lt
   replace B0k:=lt_add B0z
   have hsw3:=hkw3.size
   go_wp2_with fail
   refine (refNone_any B.rows B.cols _ _ _ _).mono ?_
   rw [HNB.out]
   rintro e w4 ⟨rfl,hb4⟩
   have hkw4:Below w3.heap.size w3 w4:=(Below.x1 hb4)
   replace B0:=B0.keep hkw4
   replace B0c:=B0.cell
   replace B0f:=B0.thawed
   replace B0z:=B0.lt
   replace B0k:=lt_add B0z
   have hsw4:=hkw4.size
   go_wp2
   go_ret
   exact ⟨rfl,(by repeat (first|(with_reducible first|exact Below.refl _ _|refine Below.al ?_ _|refine Below.drN ?_ _|refine Below.drew ?_|refine Below.sx ?_ _|refine Below.go ?_ hb4|refine Below.go ?_ hb3|refine Below.go ?_ hb2|refine Below.go ?_ hb1)|exact Below.refl _ _))⟩
 ·skip
  rw [if_neg (by unfold Lay.fits Mat.empty;dsimp only;omega)]
  have HNW:=Lib.hid (decide_eq_false h0)
  clear h0
  go_enter Tryz.func38,Tryz.ntmps38
  go_wp2_with fail
  refine (refMatFault_any W _ _ (MatAt.mk (x0.alloc _))).mono ?_
  rw [HW.out]
  rintro e w1 ⟨rfl,hb1⟩
  have B0:=((show Box _ w.heap.size [.int .i64 4,.int .i64 W.rows,.int .i64 W.cols,.slice a n k,.int .i64 B.rows,.int .i64 B.cols,.slice a' n' k'] 84 from Box.x0)).keep hb1
  have B0c:=B0.cell
  have B0f:=B0.thawed
  have B0z:=B0.lt
  have B0k:=lt_add B0z
  have hkw1:Below w.heap.size w w1:=(Below.x1 hb1)
  replace x1:=x1.keep hkw1
  have hsw1:=hkw1.size
  go_wp2_with fail
  refine (refMatFault_any B _ _ (MatAt.mk x1)).mono ?_
  rw [HB.out]
  rintro e w2 ⟨rfl,hb2⟩
  have hkw2:Below w1.heap.size w1 w2:=(Below.x1 hb2)
  replace B0:=B0.keep hkw2
  replace B0c:=B0.cell
  replace B0f:=B0.thawed
  replace B0z:=B0.lt
  replace B0k:=lt_add B0z
  have hsw2:=hkw2.size
  go_wp2_with fail
  refine (refNone_any W.rows W.cols _ _ _ _).mono ?_
  rw [HNW.out]
  rintro e w3 ⟨rfl,hb3⟩
  have hkw3:Below w2.heap.size w2 w3:=(Below.x1 hb3)
  replace B0:=B0.keep hkw3
  replace B0c:=B0.cell
  replace B0f:=B0.thawed
  replace B0z:=B0.lt
  replace B0k:=lt_add B0z
  have hsw3:=hkw3.size
  go_wp2_with fail
  refine (refNone_any B.rows B.cols _ _ _ _).mono ?_
  rw [HNB.out]
  rintro e w4 ⟨rfl,hb4⟩
  have hkw4:Below w3.heap.size w3 w4:=(Below.x1 hb4)
  replace B0:=B0.keep hkw4
  replace B0c:=B0.cell
  replace B0f:=B0.thawed
  replace B0z:=B0.lt
  replace B0k:=lt_add B0z
  have hsw4:=hkw4.size
  go_wp2
  go_ret
  exact ⟨rfl,(by repeat (first|(with_reducible first|exact Below.refl _ _|refine Below.al ?_ _|refine Below.drN ?_ _|refine Below.drew ?_|refine Below.sx ?_ _|refine Below.go ?_ hb4|refine Below.go ?_ hb3|refine Below.go ?_ hb2|refine Below.go ?_ hb1)|exact Below.refl _ _))⟩
end
theorem refLayerFault_any (l:Lay) (v:Value) (w:World) (h:LayAt w v l):Calls Tryz.prog 38 #[v] w fun e w'=>e=.returned (.int .i64 l.fault)∧Below w.heap.size w w':=by
 obtain ⟨a,n,k,b,o,a',n',k',b',o',rfl,x0,x1⟩:=h
 obtain ⟨kd,W,B⟩:=l
 dsimp only at x0 x1 ⊢
 by_cases hk:kd<1∨4<kd
 ·exact refLayerFault_kind kd W B _ _ _ _ _ _ _ _ _ _ w x0 x1 hk
 ·by_cases fw:W.fault=0
  ·by_cases fb:B.fault=0
   ·rcases (by omega:kd=1∨kd=2∨kd=3∨kd=4) with rfl|rfl|rfl|rfl
    ·exact refLayerFault_1 W B _ _ _ _ _ _ _ _ _ _ w x0 x1 fw fb
    ·exact refLayerFault_2 W B _ _ _ _ _ _ _ _ _ _ w x0 x1 fw fb
    ·exact refLayerFault_3 W B _ _ _ _ _ _ _ _ _ _ w x0 x1 fw fb
    ·exact refLayerFault_4 W B _ _ _ _ _ _ _ _ _ _ w x0 x1 fw fb
   ·exact refLayerFault_B kd W B _ _ _ _ _ _ _ _ _ _ w x0 x1 (by omega) (by omega) fw fb
  ·exact refLayerFault_W kd W B _ _ _ _ _ _ _ _ _ _ w x0 x1 (by omega) (by omega) fw
end Go.Proofs.YtchngeagnlngaaaGreatDoor
end
