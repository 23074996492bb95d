/- Texts joined: Shap, RTrain1, RDrill. -/
import Derived.Test.YtchngeagnlngaaaGreatDoorJ03
import Derived.Test.YtchngeagnlngaaaGreatDoorJ06
import Derived.Test.YtchngeagnlngaaaGreatDoorJ08
import Derived.Test.YtchngeagnlngaaaGreatDoorJ20
import Derived.Test.YtchngeagnlngaaaGreatDoorJ37
import Derived.Test.YtchngeagnlngaaaGreatDoorJ13
import Derived.Deep.RegionHeld3
import Derived.Test.YtchngeagnlngaaaGreatDoorJ04
import Derived.Test.YtchngeagnlngaaaGreatDoorJ05
import Derived.WalkKit
set_option linter.unusedVariables false
set_option linter.unusedSimpArgs false
set_option linter.unusedSectionVars false
section
namespace Go.Proofs.YtchngeagnlngaaaGreatDoor
open Go.RowKit Gal
set_option maxRecDepth 100000
set_option maxHeartbeats 2000000
theorem refShaped_any (x y:Mat) (a0 a1:Option Addr) (n0 n1 k0 k1:Nat) (w:World) :
  Calls Tryz.prog 40 #[.agg #[.int .i64 x.rows,.int .i64 x.cols,.slice a0 n0 k0],.agg #[.int .i64 y.rows,.int .i64 y.cols,.slice a1 n1 k1]] w fun e w'=>e=.returned (.bool (decide (likeShape x y)))∧Below w.heap.size w w':=by
 by_cases h1:x.rows=y.rows
 ·have g1:(x.rows == y.rows)=true:=by simp [h1]
  by_cases h2:x.cols=y.cols
  ·have g2:(x.cols == y.cols)=true:=by simp [h2]
   rw [decide_eq_true (show likeShape x y from ⟨h1,h2⟩)]
   clear h1 h2
   go_enter Tryz.func40,Tryz.ntmps40
   go_wp2
   go_ret
   exact ⟨rfl,Below.x0⟩
  ·have g2:(x.cols == y.cols)=false:=by simp [h2]
   rw [decide_eq_false (fun h:likeShape x y=>h2 h.2)]
   clear h1 h2
   go_enter Tryz.func40,Tryz.ntmps40
   go_wp2
   go_ret
   exact ⟨rfl,Below.x0⟩
 ·have g1:(x.rows == y.rows)=false:=by simp [h1]
  rw [decide_eq_false (fun h:likeShape x y=>h1 h.1)]
  clear h1
  go_enter Tryz.func40,Tryz.ntmps40
  go_wp2
  go_ret
  exact ⟨rfl,Below.x0⟩
end Go.Proofs.YtchngeagnlngaaaGreatDoor
end
section
set_option maxRecDepth 100000
namespace Gal
open Go Go.RowKit
section
variable {w:World} {b i c j p:Nat} {z0 z1 z2 z3 z4 z5 z6 x0 x1 x2 x3 x4 x5 s0 s1 s2:Value} {T:TypeId}
theorem cells_sw (s:Box w p [s0,s1,s2] T) (m:Cells6 w c j x0 x1 x2 x3 x4 x5) (l:Cells7 w b i z0 z1 z2 z3 z4 z5 z6) :
  w.cell? ⟨p,0,none⟩=some s0∧w.cell? ⟨p,1,none⟩=some s1∧w.cell? ⟨c,j,none⟩=some x0∧w.cell? ⟨c,j+1,none⟩=some x1∧w.cell? ⟨c,j+2,none⟩=some x2∧w.cell? ⟨b,i+1,none⟩=some z1∧w.cell? ⟨b,i+2,none⟩=some z2∧w.cell? ⟨b,i+3,none⟩=some z3:=⟨s.cell 0,s.cell 1,m.c0,m.c1,m.c2,l.c1,l.c2,l.c3⟩
theorem cells_sb (s:Box w p [s0,s1,s2] T) (m:Cells6 w c j x0 x1 x2 x3 x4 x5) (l:Cells7 w b i z0 z1 z2 z3 z4 z5 z6) :
  w.cell? ⟨p,0,none⟩=some s0∧w.cell? ⟨p,1,none⟩=some s1∧w.cell? ⟨c,j+3,none⟩=some x3∧w.cell? ⟨c,j+4,none⟩=some x4∧w.cell? ⟨c,j+5,none⟩=some x5∧w.cell? ⟨b,i+4,none⟩=some z4∧w.cell? ⟨b,i+5,none⟩=some z5∧w.cell? ⟨b,i+6,none⟩=some z6:=⟨s.cell 0,s.cell 1,m.c3,m.c4,m.c5,l.c4,l.c5,l.c6⟩
end
end Gal
namespace Go.Proofs.YtchngeagnlngaaaGreatDoor
open Go.RowKit Gal
set_option maxHeartbeats 4000000
theorem refStateFault_any (s:Sta) (F G:Nat→Prop) (a0 a1:Option Addr) (n n1 k0 k1 b0 b1 o0 o1:Nat) (w:World) (h0:RowAt Form.lay w F a0 n k0 b0 o0 s.N) (h1:RowAt Form.grd w G a1 n1 k1 b1 o1 s.V) :
  Calls Tryz.prog 16 #[.agg #[.slice a0 n k0,.slice a1 n1 k1,.int .i64 s.steps]] w fun e w'=>e=.returned (.int .i64 s.fault)∧Below w.heap.size w w':=by
 have HL0:=Lib.hid h0.len
 have HL1:=Lib.hid h1.len
 have hm:=h0.max
 have hm1:=h1.max
 unfold maxLen at hm hm1
 by_cases g1:12<n
 ·have HF:Hid (s.fault=3):=Lib.hid (by unfold Sta.fault;rw [if_pos (by rw [HL0.out];exact g1)])
  have e1:((n:Int) > 12)=True:=eq_true (by omega)
  clear g1
  rw [show s.fault=3 from HF.out]
  go_enter Tryz.func16,Tryz.ntmps16
  go_wp2
  go_ret
  exact ⟨by rfl,Below.x0⟩
 ·have e1 : ((n:Int) > 12)=False:=eq_false (by omega)
  by_cases g2:n1=n
  ·have e2 : ((n1:Int) != (n:Int))=false:=by rw [bne_eq_false_iff_eq];omega
   by_cases g3:s.steps<0
   ·have HF:Hid (s.fault=1):=Lib.hid (by unfold Sta.fault;rw [if_neg (by rw [HL0.out];exact g1),if_neg (by rw [HL0.out,HL1.out];omega),if_pos (Or.inl g3)])
    have e3:(s.steps<0)=True:=eq_true g3
    clear g1 g2 g3
    rw [show s.fault=1 from HF.out]
    go_enter Tryz.func16,Tryz.ntmps16
    go_wp2
    go_ret
    exact ⟨by rfl,Below.x0⟩
   ·have e3 : (s.steps<0)=False:=eq_false g3
    by_cases g4:1000000000<s.steps
    ·have HF:Hid (s.fault=1):=Lib.hid (by unfold Sta.fault;rw [if_neg (by rw [HL0.out];exact g1),if_neg (by rw [HL0.out,HL1.out];omega),if_pos (Or.inr g4)])
     have e4:(s.steps > 1000000000)=True:=eq_true (by omega)
     clear g1 g2 g3 g4
     rw [show s.fault=1 from HF.out]
     go_enter Tryz.func16,Tryz.ntmps16
     go_wp2
     go_ret
     exact ⟨by rfl,Below.x0⟩
    ·have e4:(s.steps > 1000000000)=False:=eq_false (by omega)
     have HTO:Hid (s.fault=stTo s.N s.V n):=Lib.hid (by rw [Sta.fault_to (by rw [HL0.out];exact g1) (by rw [HL0.out,HL1.out];exact g2) (by omega),HL0.out])
     subst g2
     clear g3 g4
     go_enter Tryz.func16,Tryz.ntmps16
     go_wp2
     clear e1 e2 e3 e4
     go_loopw [3] (fun i wr=>∃ t:Nat,t≤n1∧i=.int .i64 t∧Hid (stTo s.N s.V t=0)∧Box wr w.heap.size [.slice a0 n1 k0,.slice a1 n1 k1,.int .i64 s.steps] 25∧Below w.heap.size w wr) (fun i _=>n1 - (intOf i).toNat)
     case atStart=>exact ⟨0,Nat.zero_le _,rfl,Lib.hid rfl,Box.new' _ _ [.slice a0 n1 k0,.slice a1 n1 k1,.int .i64 s.steps] _ rfl,Below.x0⟩
     case round=>
      obtain ⟨t,ht,rfl,HT,hS,hbr⟩:=hrel
      by_cases hlt:t<n1
      ·have hltI:(t:Int)<(n1:Int):=by omega
       have hlt0:(0:Int)≤(t:Int):=by omega
       obtain rfl:=h0.ptr (by omega)
       obtain rfl:=h1.ptr (by omega)
       obtain ⟨a2,n2,k2,b2,o2,a3,n3,k3,b3,o3,c0,c1,c2,c3,c4,c5,c6,x1,x2⟩:=lay_cells (h0.keep hbr) hlt
       obtain ⟨a4,n4,k4,b4,o4,a5,n5,k5,b5,o5,d0,d1,d2,d3,d4,d5,y1,y2⟩:=grd_cells (h1.keep hbr) (gx_get (i:=t) (by rw [HL1.out];exact hlt))
       obtain ⟨l,hl⟩:∃ l,l=lx s.N t:=⟨_,rfl⟩
       obtain ⟨v,hv⟩:∃ v,v=gx s.V t:=⟨_,rfl⟩
       rw [← hl] at c0 c1 c2 c4 c5 x1 x2
       rw [← hv] at d0 d1 d3 d4 y1 y2
       have HX:Hid (l=lx s.N t∧v=gx s.V t):=Lib.hid ⟨hl,hv⟩
       have ML:Cells7 wr b0 (o0+t*7) (.int .i64 l.kind) (.int .i64 l.W.rows) (.int .i64 l.W.cols) (.slice a2 n2 k2) (.int .i64 l.B.rows) (.int .i64 l.B.cols) (.slice a3 n3 k3):=⟨c0,c1,c2,c3,c4,c5,c6⟩
       have MV:Cells6 wr b1 (o1+t*6) (.int .i64 v.W.rows) (.int .i64 v.W.cols) (.slice a4 n4 k4) (.int .i64 v.B.rows) (.int .i64 v.B.cols) (.slice a5 n5 k5):=⟨d0,d1,d2,d3,d4,d5⟩
       clear hl hv c0 c1 c2 c3 c4 c5 c6 d0 d1 d2 d3 d4 d5
       have e0:=ML.c0
       have e1:=ML.c1
       have e2:=ML.c2
       have e3:=ML.c3
       have e4:=ML.c4
       have e5:=ML.c5
       have e6:=ML.c6
       have S0:=hS.cell 0
       by_cases f1:l.fault=0
       ·have HFL:=Lib.hid f1
        clear f1
        go_wp2_with fail
        refine (refLayerFault_any l _ _ ⟨a2,n2,k2,b2,o2,a3,n3,k3,b3,o3,rfl,x1,x2⟩).mono ?_
        rw [HFL.out]
        rintro e w1 ⟨rfl,hb1⟩
        clear e0 e1 e2 e3 e4 e5 e6 S0 x1 x2
        replace ML:=ML.keep hb1
        replace MV:=MV.keep hb1
        replace hS:=hS.keep hb1
        replace y1:=y1.keep hb1
        replace y2:=y2.keep hb1
        have e0:=MV.c0
        have e1:=MV.c1
        have e2:=MV.c2
        have S1:=hS.cell 1
        by_cases f2:v.W.fault=0
        ·have HFW:=Lib.hid f2
         clear f2
         go_wp2_with fail
         refine (refMatFault_any v.W _ _ (MatAt.mk (show IntsAt _ a4 n4 k4 b4 o4 v.W.cells from y1))).mono ?_
         rw [HFW.out]
         rintro e w2 ⟨rfl,hb2⟩
         clear e0 e1 e2 S1 y1
         replace ML:=ML.keep hb2
         replace MV:=MV.keep hb2
         replace hS:=hS.keep hb2
         replace y2:=y2.keep hb2
         have e0:=MV.c3
         have e1:=MV.c4
         have e2:=MV.c5
         have S1:=hS.cell 1
         by_cases f3:v.B.fault=0
         ·have HFB:=Lib.hid f3
          clear f3
          go_wp2_with fail
          refine (refMatFault_any v.B _ _ (MatAt.mk (show IntsAt _ a5 n5 k5 b5 o5 v.B.cells from y2))).mono ?_
          rw [HFB.out]
          rintro e w3 ⟨rfl,hb3⟩
          clear e0 e1 e2 S1 y2
          replace ML:=ML.keep hb3
          replace MV:=MV.keep hb3
          replace hS:=hS.keep hb3
          obtain ⟨A,hA⟩:∃ A,decide (likeShape v.W l.W)=A:=⟨_,rfl⟩
          obtain ⟨B,hB⟩:∃ B,decide (likeShape v.B l.B)=B:=⟨_,rfl⟩
          have HA:=Lib.hid hA
          have HB:=Lib.hid hB
          clear hA hB
          go_wp2_with fail
          go_region_held3 (fun w'=>w'.cell? ⟨w.heap.size,0,none⟩=some (.slice (some ⟨b0,o0,none⟩) n1 k0)∧w'.cell? ⟨w.heap.size,1,none⟩=some (.slice (some ⟨b1,o1,none⟩) n1 k1)∧w'.cell? ⟨b1,o1+t*6,none⟩=some (.int .i64 v.W.rows)∧w'.cell? ⟨b1,o1+t*6+1,none⟩=some (.int .i64 v.W.cols)∧w'.cell? ⟨b1,o1+t*6+2,none⟩=some (.slice a4 n4 k4)∧w'.cell? ⟨b0,o0+t*7+1,none⟩=some (.int .i64 l.W.rows)∧w'.cell? ⟨b0,o0+t*7+2,none⟩=some (.int .i64 l.W.cols)∧w'.cell? ⟨b0,o0+t*7+3,none⟩=some (.slice a2 n2 k2)) (exact cells_sw (show Box _ w.heap.size [.slice (some ⟨b0,o0,none⟩) n1 k0,.slice (some ⟨b1,o1,none⟩) n1 k1,.int .i64 s.steps] 25 from (by first|exact hS.k1 hb6|exact hS.k)) (show Cells6 _ b1 (o1+t*6) (.int .i64 v.W.rows) (.int .i64 v.W.cols) (.slice a4 n4 k4) (.int .i64 v.B.rows) (.int .i64 v.B.cols) (.slice a5 n5 k5) from (by repeat (first|(with_reducible first|exact MV|refine Cells6.alloc ?_ _|refine Cells6.drewN ?_ _|refine Cells6.drew ?_|(refine Cells6.far ?_ ?_ _;rotate_left 1;(first|(dsimp only;omega)|omega|(simp;omega)|simp))|refine Cells6.keep ?_ hb6)|exact MV))) (show Cells7 _ b0 (o0+t*7) (.int .i64 l.kind) (.int .i64 l.W.rows) (.int .i64 l.W.cols) (.slice a2 n2 k2) (.int .i64 l.B.rows) (.int .i64 l.B.cols) (.slice a3 n3 k3) from (by repeat (first|(with_reducible first|exact ML|refine Cells7.alloc ?_ _|refine Cells7.drewN ?_ _|refine Cells7.drew ?_|(refine Cells7.far ?_ ?_ _;rotate_left 1;(first|(dsimp only;omega)|omega|(simp;omega)|simp))|refine Cells7.keep ?_ hb6)|exact ML)))) ((go_at_call 40;go_must (refine (refShaped_any v.W l.W _ _ _ _ _ _ _).mono ?_);(try rw [HA.out]);go_must (rintro e w6 ⟨rfl,hb6⟩)))
          have ML':Cells7 w6 b0 (o0+t*7) (.int .i64 l.kind) (.int .i64 l.W.rows) (.int .i64 l.W.cols) (.slice a2 n2 k2) (.int .i64 l.B.rows) (.int .i64 l.B.cols) (.slice a3 n3 k3):=(by repeat (first|(with_reducible first|exact ML|refine Cells7.alloc ?_ _|refine Cells7.drewN ?_ _|refine Cells7.drew ?_|(refine Cells7.far ?_ ?_ _;rotate_left 1;(first|(dsimp only;omega)|omega|(simp;omega)|simp))|refine Cells7.keep ?_ hb6)|exact ML))
          have MV':Cells6 w6 b1 (o1+t*6) (.int .i64 v.W.rows) (.int .i64 v.W.cols) (.slice a4 n4 k4) (.int .i64 v.B.rows) (.int .i64 v.B.cols) (.slice a5 n5 k5):=(by repeat (first|(with_reducible first|exact MV|refine Cells6.alloc ?_ _|refine Cells6.drewN ?_ _|refine Cells6.drew ?_|(refine Cells6.far ?_ ?_ _;rotate_left 1;(first|(dsimp only;omega)|omega|(simp;omega)|simp))|refine Cells6.keep ?_ hb6)|exact MV))
          have hS':Box w6 w.heap.size [.slice (some ⟨b0,o0,none⟩) n1 k0,.slice (some ⟨b1,o1,none⟩) n1 k1,.int .i64 s.steps] 25:=(by first|exact hS.k1 hb6|exact hS.k)
          clear ML MV hS
          go_wp2_with fail
          go_region_held3 (fun w'=>w'.cell? ⟨w.heap.size,0,none⟩=some (.slice (some ⟨b0,o0,none⟩) n1 k0)∧w'.cell? ⟨w.heap.size,1,none⟩=some (.slice (some ⟨b1,o1,none⟩) n1 k1)∧w'.cell? ⟨b1,o1+t*6+3,none⟩=some (.int .i64 v.B.rows)∧w'.cell? ⟨b1,o1+t*6+4,none⟩=some (.int .i64 v.B.cols)∧w'.cell? ⟨b1,o1+t*6+5,none⟩=some (.slice a5 n5 k5)∧w'.cell? ⟨b0,o0+t*7+4,none⟩=some (.int .i64 l.B.rows)∧w'.cell? ⟨b0,o0+t*7+5,none⟩=some (.int .i64 l.B.cols)∧w'.cell? ⟨b0,o0+t*7+6,none⟩=some (.slice a3 n3 k3)) (exact cells_sb (show Box _ w.heap.size [.slice (some ⟨b0,o0,none⟩) n1 k0,.slice (some ⟨b1,o1,none⟩) n1 k1,.int .i64 s.steps] 25 from (by first|exact hS'.k1 hb7|exact hS'.k)) (show Cells6 _ b1 (o1+t*6) (.int .i64 v.W.rows) (.int .i64 v.W.cols) (.slice a4 n4 k4) (.int .i64 v.B.rows) (.int .i64 v.B.cols) (.slice a5 n5 k5) from (by repeat (first|(with_reducible first|exact MV'|refine Cells6.alloc ?_ _|refine Cells6.drewN ?_ _|refine Cells6.drew ?_|(refine Cells6.far ?_ ?_ _;rotate_left 1;(first|(dsimp only;omega)|omega|(simp;omega)|simp))|refine Cells6.keep ?_ hb7)|exact MV'))) (show Cells7 _ b0 (o0+t*7) (.int .i64 l.kind) (.int .i64 l.W.rows) (.int .i64 l.W.cols) (.slice a2 n2 k2) (.int .i64 l.B.rows) (.int .i64 l.B.cols) (.slice a3 n3 k3) from (by repeat (first|(with_reducible first|exact ML'|refine Cells7.alloc ?_ _|refine Cells7.drewN ?_ _|refine Cells7.drew ?_|(refine Cells7.far ?_ ?_ _;rotate_left 1;(first|(dsimp only;omega)|omega|(simp;omega)|simp))|refine Cells7.keep ?_ hb7)|exact ML')))) ((go_at_call 40;go_must (refine (refShaped_any v.B l.B _ _ _ _ _ _ _).mono ?_);(try rw [HB.out]);go_must (rintro e w7 ⟨rfl,hb7⟩)))
          have hS:Box w7 w.heap.size [.slice (some ⟨b0,o0,none⟩) n1 k0,.slice (some ⟨b1,o1,none⟩) n1 k1,.int .i64 s.steps] 25:=(by first|exact hS'.k1 hb7|exact hS'.k)
          have hbe:Below w.heap.size w w7:=(by repeat (first|(with_reducible first|exact Below.refl _ _|exact hbr|refine Below.al ?_ _|refine Below.drN ?_ _|refine Below.drew ?_|refine Below.sx ?_ _|refine Below.go ?_ hb7|refine Below.go ?_ hb6|refine Below.go ?_ hb3|refine Below.go ?_ hb2|refine Below.go ?_ hb1)|exact Below.refl _ _|exact hbr))
          clear ML' MV' hS'
          have HNZ:Hid ((2:Int)≠0):=Lib.hid (by decide)
          have HPT:Hid (stPart (lx s.N t) (gx s.V t)=if A=true∧B=true then 0 else 2):=Lib.hid (by
           rw [← HX.out.1,← HX.out.2,← HA.out,← HB.out]
           unfold stPart
           rw [if_neg (by simp [HFL.out]),if_neg (by simp [HFW.out]),if_neg (by simp [HFB.out])]
           simp only [decide_eq_true_eq])
          cases A with
          | true=>
           cases B with
           | true=>
            have HNX:Hid (stTo s.N s.V (t+1)=0):=Lib.hid (by rw [stTo_next HT.out,HPT.out];rfl)
            go_wp2
            go_roundw
            case rel=>exact ⟨t+1,by omega,by go_num,HNX,hS,hbe⟩
            case measure=>simp [intOf];omega
           | false=>
            have HR:Hid (s.fault=2):=Lib.hid (by rw [HTO.out,stTo_stop hlt HT.out (by rw [HPT.out];decide),HPT.out];rfl)
            go_wp2
            go_ret
            exact ⟨by rw [HR.out];rfl,hbe⟩
          | false=>
           have HR:Hid (s.fault=2):=Lib.hid (by rw [HTO.out,stTo_stop hlt HT.out (by rw [HPT.out];simp),HPT.out];simp)
           go_wp2
           go_ret
           exact ⟨by rw [HR.out];rfl,hbe⟩
         ·have HNZ:=Lib.hid f3
          have q1:(v.B.fault != 0)=true:=by rw [bne_iff_ne];exact f3
          clear f3
          go_wp2_with fail
          refine (refMatFault_any v.B _ _ (MatAt.mk (show IntsAt _ a5 n5 k5 b5 o5 v.B.cells from y2))).mono ?_
          rintro e w3 ⟨rfl,hb3⟩
          have hbe:Below w.heap.size w w3:=(by repeat (first|(with_reducible first|exact Below.refl _ _|exact hbr|refine Below.al ?_ _|refine Below.drN ?_ _|refine Below.drew ?_|refine Below.sx ?_ _|refine Below.go ?_ hb3|refine Below.go ?_ hb2|refine Below.go ?_ hb1)|exact Below.refl _ _|exact hbr))
          clear e0 e1 e2 S1 y2 ML MV hS
          have HR:Hid (s.fault=v.B.fault):=Lib.hid (by
           have h1:stPart (lx s.N t) (gx s.V t)=v.B.fault:=by rw [← HX.out.1,← HX.out.2];exact (by unfold stPart;rw [if_neg (by simp [HFL.out]),if_neg (by simp [HFW.out]),if_pos HNZ.out])
           rw [HTO.out,stTo_stop hlt HT.out (by rw [h1];exact HNZ.out),h1])
          go_wp2
          go_ret
          exact ⟨by rw [HR.out];rfl,(Below.y0 hbe)⟩
        ·have HNZ:=Lib.hid f2
         have q1:(v.W.fault == 0)=false:=by rw [beq_eq_false_iff_ne];exact f2
         have q2:(v.W.fault != 0)=true:=by rw [bne_iff_ne];exact f2
         clear f2
         go_wp2_with fail
         refine (refMatFault_any v.W _ _ (MatAt.mk (show IntsAt _ a4 n4 k4 b4 o4 v.W.cells from y1))).mono ?_
         rintro e w2 ⟨rfl,hb2⟩
         have hbe:Below w.heap.size w w2:=(by repeat (first|(with_reducible first|exact Below.refl _ _|exact hbr|refine Below.al ?_ _|refine Below.drN ?_ _|refine Below.drew ?_|refine Below.sx ?_ _|refine Below.go ?_ hb2|refine Below.go ?_ hb1)|exact Below.refl _ _|exact hbr))
         clear e0 e1 e2 S1 y1 y2 ML MV hS
         have HR:Hid (s.fault=v.W.fault):=Lib.hid (by
          have h1:stPart (lx s.N t) (gx s.V t)=v.W.fault:=by rw [← HX.out.1,← HX.out.2];exact (by unfold stPart;rw [if_neg (by simp [HFL.out]),if_pos HNZ.out])
          rw [HTO.out,stTo_stop hlt HT.out (by rw [h1];exact HNZ.out),h1])
         go_wp2
         go_ret
         exact ⟨by rw [HR.out];rfl,(Below.y0 hbe)⟩
       ·have HNZ:=Lib.hid f1
        have q1:(l.fault == 0)=false:=by rw [beq_eq_false_iff_ne];exact f1
        have q2:(l.fault != 0)=true:=by rw [bne_iff_ne];exact f1
        clear f1
        go_wp2_with fail
        refine (refLayerFault_any l _ _ ⟨a2,n2,k2,b2,o2,a3,n3,k3,b3,o3,rfl,x1,x2⟩).mono ?_
        rintro e w1 ⟨rfl,hb1⟩
        have hbe:Below w.heap.size w w1:=(Below.y1 hb1 hbr)
        clear e0 e1 e2 e3 e4 e5 e6 S0 x1 x2 y1 y2 ML MV hS
        have HR:Hid (s.fault=l.fault):=Lib.hid (by
         have h1:stPart (lx s.N t) (gx s.V t)=l.fault:=by rw [← HX.out.1,← HX.out.2];exact (if_pos HNZ.out)
         rw [HTO.out,stTo_stop hlt HT.out (by rw [h1];exact HNZ.out),h1])
        go_wp2
        go_ret
        exact ⟨by rw [HR.out];rfl,(Below.y0 hbe)⟩
      ·obtain rfl:t=n1:=by omega
       have HR:Hid (s.fault=0):=Lib.hid (by rw [HTO.out,HT.out])
       have S0:=hS.cell 0
       go_wp2
       go_ret
       exact ⟨by rw [HR.out];rfl,(Below.y0 hbr)⟩
  ·have HF:Hid (s.fault=2):=Lib.hid (by unfold Sta.fault;rw [if_neg (by rw [HL0.out];exact g1),if_pos (by rw [HL0.out,HL1.out];exact g2)])
   have e2:((n1:Int) != (n:Int))=true:=by rw [bne_iff_ne];omega
   clear g1 g2
   rw [show s.fault=2 from HF.out]
   go_enter Tryz.func16,Tryz.ntmps16
   go_wp2
   go_ret
   exact ⟨by rfl,Below.x0⟩
end Go.Proofs.YtchngeagnlngaaaGreatDoor
end
section
set_option maxRecDepth 100000
namespace Gal
theorem ints_drewN {w:Go.World} {a:Option Go.Addr} {n cap b off:Nat} {xs:List Int} (h:IntsAt w a n cap b off xs) (q:Nat):IntsAt (w.drewN q) a n cap b off xs:=h.keep ⟨rfl,rfl,rfl,Nat.le_refl _,fun _ _=>rfl⟩
theorem fellAt_next {Fs:List Int} {j t:Nat} (h:j<Fs.length):fellAt (Fs.take (j+1)) t=(fellAt (Fs.take j) t || decide (ix Fs j=(t:Int))):=by
 unfold fellAt
 rw [List.take_add_one,List.getElem?_eq_getElem h,List.any_append]
 have:ix Fs j=Fs[j]:=by unfold ix;rw [List.getElem?_eq_getElem h];rfl
 simp [this]
end Gal
namespace Go.Proofs.YtchngeagnlngaaaGreatDoor
open Go.RowKit Gal
set_option maxHeartbeats 4000000
theorem refDrillFault_any (s:Sta) (L:Nat) (every:Int) (Fs:List Int) (F G:Nat→Prop) (a0 a1 al af:Option Addr) (n n1 k0 k1 b0 b1 o0 o1 kl nf kf bf o2:Nat) (w:World) (h0:RowAt Form.lay w F a0 n k0 b0 o0 s.N) (h1:RowAt Form.grd w G a1 n1 k1 b1 o1 s.V) (hf:IntsAt w af nf kf bf o2 Fs) (hLb:L≤9223372036854775807) :
  Calls Tryz.prog 6 #[.agg #[.slice a0 n k0,.slice a1 n1 k1,.int .i64 s.steps],.slice al L kl,.int .i64 every,.slice af nf kf] w fun e w'=>e=.returned (.int .i64 (drillFault s L every Fs))∧Below w.heap.size w w':=by
 have hl:=hf.len
 have hmx:=hf.max
 unfold maxLen at hmx
 have HLn:=Lib.hid hl
 obtain ⟨z,hz⟩:∃ z,s.steps=z:=⟨_,rfl⟩
 have HZ:=Lib.hid hz
 rw [hz]
 clear hz
 have BB:=Box.new w [.slice a0 n k0,.slice a1 n1 k1,.int .i64 z] 25
 have c0:=BB.cell 0
 have c1:=BB.cell 1
 have c2:=BB.cell 2
 by_cases g1:20<L
 ·have HF:Hid (drillFault s L every Fs=3):=Lib.hid (if_pos g1)
  have g1d:decide (20<(L:Int))=true:=by simp;omega
  clear hf h0 h1 hl
  go_enter Tryz.func6,Tryz.ntmps6
  go_wp2
  go_ret
  exact ⟨by rw [HF.out];rfl,Below.x0⟩
 have g1d:decide (20<(L:Int))=false:=by simp;omega
 by_cases g2:every<1
 ·have HF:Hid (drillFault s L every Fs=1):=Lib.hid (by unfold drillFault;rw [if_neg g1,if_pos (Or.inl g2)])
  clear hf h0 h1 hl g1
  go_enter Tryz.func6,Tryz.ntmps6
  go_wp2
  go_ret
  exact ⟨by rw [HF.out];rfl,Below.x0⟩
 by_cases g3:20<every
 ·have HF:Hid (drillFault s L every Fs=1):=Lib.hid (by unfold drillFault;rw [if_neg g1,if_pos (Or.inr g3)])
  have g2f:(every<1)=False:=by simp;omega
  clear hf h0 h1 hl g1 g2
  go_enter Tryz.func6,Tryz.ntmps6
  go_wp2
  go_ret
  exact ⟨by rw [HF.out];rfl,Below.x0⟩
 have g2f:(every<1)=False:=by simp;omega
 have g3f:(20<every)=False:=by simp;omega
 have g3g:(every > 20)=False:=by simp;omega
 by_cases g4:20<nf
 ·have HF:Hid (drillFault s L every Fs=3):=Lib.hid (by unfold drillFault;rw [if_neg g1,if_neg (by omega),if_pos (by rw [HLn.out];exact g4)])
  have g4d:decide (20<(nf:Int))=true:=by simp;omega
  clear hf h0 h1 hl g1 g2 g3
  go_enter Tryz.func6,Tryz.ntmps6
  go_wp2
  go_ret
  exact ⟨by rw [HF.out];rfl,Below.x0⟩
 have g4d:decide (20<(nf:Int))=false:=by simp;omega
 have HD:Hid (drillFault s L every Fs=if fallsTo Fs nf≠0 then fallsTo Fs nf else if s.fault≠0 then s.fault else if 999999980<z then 1 else 0):=Lib.hid (by unfold drillFault;rw [if_neg g1,if_neg (by omega),if_neg (by rw [hl];exact g4),hl,HZ.out])
 replace hf:=hf.alloc (.cells #[.slice a0 n k0,.slice a1 n1 k1,.int .i64 z] 25)
 clear hl g1 g2 g3 g4
 go_enter Tryz.func6,Tryz.ntmps6
 go_wp2
 go_loopw [9] (fun i wr=>∃ t q:Nat,t≤nf∧i=.int .i64 t∧Hid (fallsTo Fs t=0)∧wr=(w.alloc (.cells #[.slice a0 n k0,.slice a1 n1 k1,.int .i64 z] 25)).drewN q) (fun i _=>nf - (intOf i).toNat)
 case atStart=>exact ⟨0,0,Nat.zero_le _,rfl,Lib.hid rfl,rfl⟩
 case round=>
  obtain ⟨t,qd,ht,rfl,HP,rfl⟩:=hrel
  have hf0:=hf
  replace hf:=ints_drewN hf qd
  have c2q:=(BB.drewN qd).cell 2
  have c1q:=(BB.drewN qd).cell 1
  have c0q:=(BB.drewN qd).cell 0
  obtain ⟨W,hW⟩:∃ W,(w.alloc (.cells #[.slice a0 n k0,.slice a1 n1 k1,.int .i64 z] 25)).drewN qd=W:=⟨_,rfl⟩
  have HW:=Lib.hid hW
  have hbW:Below w.heap.size w W:=by rw [← hW];exact ((Below.refl _ w).alloc (Nat.le_refl _) _).trans ⟨rfl,rfl,rfl,Nat.le_refl _,fun _ _=>rfl⟩
  rw [hW] at hf c2q c1q c0q ⊢
  clear hW
  by_cases hlt:t<nf
  ·obtain rfl:=hf.ptr (by omega)
   have hc:=hf.cell t hlt
   obtain ⟨x,hx⟩:∃ x,ix Fs t=x:=⟨_,rfl⟩
   have HX:=Lib.hid hx
   rw [hx] at hc
   by_cases e1:x<1
   ·have HF:Hid (drillFault s L every Fs=1):=Lib.hid (by
     have h9:fallOne Fs t=1:=by unfold fallOne;rw [HX.out,if_pos e1]
     rw [HD.out,fallsTo_stop hlt HP.out (by rw [h9];decide),h9];rfl)
    clear hx
    go_wp2
    go_ret
    exact ⟨by rw [HF.out];rfl,hbW⟩
   have e1f:(x<1)=False:=by simp;omega
   have h0t:(0:Int)≤(t:Int):=by omega
   rcases Nat.eq_zero_or_pos t with ht0|hpos
   ·have HN:Hid (fallsTo Fs (t+1)=0):=Lib.hid (by rw [fallsTo_next HP.out];unfold fallOne;rw [HX.out,if_neg (by omega),if_neg (by omega)])
    have tf:(0<(t:Int))=False:=by simp;omega
    have tf2:((t:Int) > 0)=False:=by simp;omega
    have tf3:decide (0<(t:Int))=false:=by simp;omega
    have tf4:(0<t)=False:=by simp;omega
    clear hx e1 ht0
    go_wp2
    go_region
    all_goals (
     go_wp2
     go_roundw
     case rel=>exact ⟨t+1,qd+1,by omega,by go_num,HN,by rw [← HW.out];rfl⟩
     case measure=>simp [intOf];omega)
   ·obtain ⟨u,rfl⟩:∃ u,t=u+1:=⟨t - 1,by omega⟩
    have hcu:=hf.cell u (by omega)
    obtain ⟨y,hy⟩:∃ y,ix Fs u=y:=⟨_,rfl⟩
    have HY:=Lib.hid hy
    rw [hy] at hcu
    have hul:u<nf:=by omega
    have e3:(((u+1:Nat):Int) - 1)=(u:Int):=by omega
    by_cases e2:x≤y
    ·have HF:Hid (drillFault s L every Fs=5):=Lib.hid (by
      have h9:fallOne Fs (u+1)=5:=by unfold fallOne;rw [HX.out,if_neg e1,Nat.add_sub_cancel,HY.out,if_pos ⟨by omega,e2⟩]
      rw [HD.out,fallsTo_stop hlt HP.out (by rw [h9];decide),h9];rfl)
     clear hx hy e1
     go_wp2
     go_region
     all_goals (
      go_wp2
      go_ret
      exact ⟨by rw [HF.out];rfl,hbW.trans ⟨rfl,rfl,rfl,Nat.le_refl _,fun _ _=>rfl⟩⟩)
    ·have e2f:(x≤y)=False:=by simp;omega
     have HN:Hid (fallsTo Fs (u+1+1)=0):=Lib.hid (by rw [fallsTo_next HP.out];unfold fallOne;rw [HX.out,if_neg e1,Nat.add_sub_cancel,HY.out,if_neg (fun q=>e2 q.2)])
     clear hx hy e1 e2
     go_wp2
     go_region
     all_goals (
      go_wp2
      go_roundw
      case rel=>exact ⟨u+1+1,qd+1,by omega,by go_num,HN,by rw [← HW.out];rfl⟩
      case measure=>simp [intOf];omega)
  ·obtain rfl:t=nf:=by omega
   have HD2:Hid (drillFault s L every Fs=if s.fault≠0 then s.fault else if 999999980<z then 1 else 0):=Lib.hid (by rw [HD.out,HP.out];rfl)
   clear HD HP hf ht
   have h0W:=h0.keep hbW
   have h1W:=h1.keep hbW
   have BW:Box W w.heap.size [.slice a0 n k0,.slice a1 n1 k1,.int .i64 z] 25:=by rw [← HW.out];exact BB.drewN qd
   go_wp2_with fail
   rw [← HZ.out]
   refine (refStateFault_any s F G _ _ _ _ _ _ _ _ _ _ _ h0W h1W).mono ?_
   rintro e w1 ⟨rfl,hb1⟩
   rw [HZ.out]
   have BB1:=BW.keep hb1
   have d2:=BB1.cell 2
   have hbf:Below w.heap.size w w1:=hbW.trans (hb1.mono hbW.size)
   by_cases hsf:s.fault=0
   ·have HE:=Lib.hid hsf
    rw [HE.out]
    by_cases e4:999999980<z
    ·have HF:Hid (drillFault s L every Fs=1):=Lib.hid (by rw [HD2.out,if_neg (by simp [hsf]),if_pos e4])
     clear hsf
     go_wp2
     go_ret
     exact ⟨by rw [HF.out];rfl,hbf⟩
    ·have HF:Hid (drillFault s L every Fs=0):=Lib.hid (by rw [HD2.out,if_neg (by simp [hsf]),if_neg e4])
     have e4f:(999999980<z)=False:=by simp;omega
     clear hsf
     go_wp2
     go_ret
     exact ⟨by rw [HF.out];rfl,hbf⟩
   ·have HF:Hid (drillFault s L every Fs=s.fault):=Lib.hid (by rw [HD2.out,if_pos hsf])
    obtain ⟨sf,hsf2⟩:∃ sf,s.fault=sf:=⟨_,rfl⟩
    have HSF2:=Lib.hid hsf2
    rw [hsf2] at hsf ⊢
    have hnz:(sf == 0)=false:=by simpa using hsf
    clear hsf2
    go_wp2
    go_ret
    exact ⟨by rw [HF.out,HSF2.out];rfl,hbf⟩
theorem refDrillTries_any (L E:Nat) (Fs:List Int) (af:Option Addr) (nf kf bf o2:Nat) (w:World) (hf:IntsAt w af nf kf bf o2 Fs) (hL:L≤20) (hE1:1≤E) (hE20:E≤20) (hF20:Fs.length≤20) :
  Calls Tryz.prog 8 #[.int .i64 L,.int .i64 E,.slice af nf kf] w fun e w'=>∃ t:Nat,e=.returned (.int .i64 t)∧TrySt E Fs L t∧¬ atK E Fs t<L∧w=w':=by
 have hfl:=hf.len
 have HFL:=Lib.hid hfl
 have HF20:=Lib.hid hF20
 have hn20:nf≤20:=by omega
 clear hfl hF20
 go_enter Tryz.func8,Tryz.ntmps8
 go_wp2
 go_loopw [7,8] (fun a b wr=>∃ t q:Nat,t≤L+400∧q≤L∧a=.int .i64 t∧b=.int .i64 q∧Hid (TrySt E Fs L t∧q=atK E Fs t)∧wr=w) (fun a _ _=>L+401 - (intOf a).toNat)
 case atStart=>exact ⟨0,0,by omega,by omega,rfl,rfl,Lib.hid ⟨TrySt.start E Fs L,rfl⟩,rfl⟩
 case round=>
  obtain ⟨t,q,ht4,hqL,rfl,rfl,HQ,rfl⟩:=hrel
  by_cases hlt:q<L
  ·have hqq:q / E*E≤q:=Nat.div_mul_le_self _ _
   have HN:=Lib.hid (HQ.out.1.next hE1 (by rw [← HQ.out.2];exact hlt))
   have ht5:t+1≤L+400:=HN.out.small hE1 hE20 HF20.out
   obtain ⟨ti,hti⟩:∃ ti:Int,(t:Int)+1=ti:=⟨_,rfl⟩
   have HTI:=Lib.hid hti
   have hti1:1≤ti∧ti≤1000:=by omega
   obtain ⟨hti2,hti3⟩:=hti1
   obtain ⟨dq,hdq⟩:∃ dq:Nat,q / E=dq:=⟨_,rfl⟩
   obtain ⟨mq,hmq⟩:∃ mq:Nat,dq*E=mq:=⟨_,rfl⟩
   have HDQ:=Lib.hid (And.intro hdq hmq)
   rw [hdq,hmq] at hqq
   clear hti hdq hmq
   go_wp2
   try rw [HTI.out]
   go_loopw [9,10] (fun fb i wx=>∃ j:Nat,j≤nf∧fb=.bool (fellAt (Fs.take j) (t+1))∧i=.int .i64 j∧wx=wr) (fun _ i _=>nf - (intOf i).toNat)
   case atStart=>exact ⟨0,Nat.zero_le _,rfl,rfl,by first|rfl|trivial⟩
   case round=>
    obtain ⟨j,hj,rfl,rfl,rfl⟩:=hrel
    by_cases hjn:j<nf
    ·obtain rfl:=hf.ptr (by omega)
     have hc:=hf.cell j hjn
     obtain ⟨x,hx⟩:∃ x,ix Fs j=x:=⟨_,rfl⟩
     have HX:=Lib.hid hx
     rw [hx] at hc
     have HNX:=Lib.hid (fellAt_next (Fs:=Fs) (j:=j) (t:=t+1) (by rw [HFL.out];exact hjn))
     obtain ⟨b,hb⟩:∃ b,fellAt (Fs.take j) (t+1)=b:=⟨_,rfl⟩
     have HB:=Lib.hid hb
     rw [hb]
     clear hx hb
     cases b
     ·by_cases hxt:x=ti
      ·subst hxt
       have HR2:Hid (fellAt (Fs.take (j+1)) (t+1)=true):=Lib.hid (by rw [HNX.out,HB.out,HX.out];simp;have:=HTI.out;omega)
       go_wp2
       go_roundw
       case rel=>exact ⟨j+1,by omega,by rw [HR2.out],by go_num,by first|rfl|trivial⟩
       case measure=>simp [intOf];omega
      ·have hxf:(x == ti)=false:=by simpa using hxt
       have HR2:Hid (fellAt (Fs.take (j+1)) (t+1)=false):=Lib.hid (by rw [HNX.out,HB.out,HX.out];simp;have:=HTI.out;omega)
       go_wp2
       go_roundw
       case rel=>exact ⟨j+1,by omega,by rw [HR2.out],by go_num,by first|rfl|trivial⟩
       case measure=>simp [intOf];omega
     ·have HR2:Hid (fellAt (Fs.take (j+1)) (t+1)=true):=Lib.hid (by rw [HNX.out,HB.out];rfl)
      go_wp2
      go_roundw
      case rel=>exact ⟨j+1,by omega,by rw [HR2.out],by go_num,by first|rfl|trivial⟩
      case measure=>simp [intOf];omega
    ·obtain rfl:j=nf:=by omega
     have hall:Fs.take j=Fs:=List.take_of_length_le (by rw [HFL.out];exact Nat.le_refl _)
     rw [hall]
     by_cases hfl:fellAt Fs (t+1)=true
     ·have HAT:Hid (mq=atK E Fs (t+1)):=Lib.hid (by rw [atK_fell hfl,← HQ.out.2,HDQ.out.1,HDQ.out.2])
      have hdI:(q:Int) / (E:Int)=(dq:Int):=by rw [← HDQ.out.1];rfl
      have hdT:Int.tdiv (q:Int) (E:Int)=(dq:Int):=by rw [Int.tdiv_eq_ediv_of_nonneg (by omega)];exact hdI
      have hmI:(dq:Int)*(E:Int)=(mq:Int):=by rw [← HDQ.out.2];simp
      have hd20:dq≤20:=by have:=Nat.div_le_self q E;rw [HDQ.out.1] at this;omega
      have hmB:(dq:Int)*(E:Int)≤20:=by rw [hmI];omega
      have hmB0:0≤(dq:Int)*(E:Int):=by rw [hmI];omega
      have hEz:((E:Int)=0)=False:=by simp;omega
      rw [hfl]
      clear hall hfl
      go_wp2
      go_roundw
      case rel=>exact ⟨t+1,mq,by omega,by omega,by rw [← HTI.out];rfl,by go_num,Lib.hid ⟨HN.out,HAT.out⟩,by first|rfl|trivial⟩
      case measure=>simp [intOf];have:=HTI.out;omega
     ·have hfl':fellAt Fs (t+1)=false:=by simpa using hfl
      have HAT:Hid (q+1=atK E Fs (t+1)):=Lib.hid (by rw [atK_went hfl,← HQ.out.2])
      rw [hfl']
      clear hall hfl hfl'
      go_wp2
      go_roundw
      case rel=>exact ⟨t+1,q+1,by omega,by omega,by rw [← HTI.out];rfl,by go_num,Lib.hid ⟨HN.out,HAT.out⟩,by first|rfl|trivial⟩
      case measure=>simp [intOf];have:=HTI.out;omega
  ·obtain rfl:q=L:=by omega
   go_wp2
   go_ret
   exact ⟨t,rfl,HQ.out.1,by rw [← HQ.out.2];omega,by first|rfl|trivial⟩
end Go.Proofs.YtchngeagnlngaaaGreatDoor
end
