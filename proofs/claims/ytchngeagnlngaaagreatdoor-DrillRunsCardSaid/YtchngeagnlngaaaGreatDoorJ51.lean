/- Texts joined: RGath, RStep2. -/
import Derived.Test.YtchngeagnlngaaaGreatDoorJ32
import Derived.Test.YtchngeagnlngaaaGreatDoorJ13
import Derived.Test.YtchngeagnlngaaaGreatDoorJ14
import Derived.Test.YtchngeagnlngaaaGreatDoorJ15
import Derived.Test.YtchngeagnlngaaaGreatDoorJ02
import Derived.Test.YtchngeagnlngaaaGreatDoorJ22
set_option linter.unusedVariables false
set_option linter.unusedSimpArgs false
set_option linter.unusedSectionVars false
section
namespace Go.Proofs.YtchngeagnlngaaaGreatDoor
open Go.RowKit Gal
set_option maxRecDepth 100000
set_option maxHeartbeats 2000000
theorem refGather_any (ds es:List Grd) (F G:Nat→Prop) (a0 a1:Option Addr) (n0 n1 k0 k1 b0 b1 o0 o1:Nat) (w:World) (h0:RowAt Form.grd w F a0 n0 k0 b0 o0 ds) (h1:RowAt Form.grd w G a1 n1 k1 b1 o1 es) (hn:n0*80≤140737488355328) :
  Calls Tryz.prog 20 #[.slice a0 n0 k0,.slice a1 n1 k1] w fun e w'=>∃ u,e=.returned (.tuple #[u,(.int .i64 (gatherFault ds es))])∧Below w.heap.size w w' ∧
   (gatherFault ds es=0→∃ a k b,u=.slice a n0 k∧RowAt Form.grd w' (newB w.heap.size) a n0 k b 0 (gatherTo ds es n0))∧(gatherFault ds es≠0→u=.slice none 0 0):=by
 obtain ⟨i0,hi,hz0,hz1,hz2⟩:=info_parts info_grad
 have m0:=h0.max
 have m1:=h1.max
 unfold maxLen at m0 m1
 have HL0:=Lib.hid h0.len
 have HL1:=Lib.hid h1.len
 have HN:=Lib.hid hn
 clear hn
 by_cases hl:n0=n1
 ·subst hl
  have HGF:Hid (gatherFault ds es=gatherFaultTo ds es n0):=Lib.hid (by unfold gatherFault;rw [if_pos (HL0.out.trans HL1.out.symm),HL0.out])
  rw [HGF.out]
  have hne:((n0:Int) != (n0:Int))=false:=by simp
  go_enter Tryz.func20,Tryz.ntmps20
  go_wp2_with fail
  go_loopw [6,7] (fun s j wr=>∃ t:Nat,t≤n0∧j=.int .i64 t∧Hid (gatherFaultTo ds es t=0)∧OwnRow Form.grd 86 wr w.heap.size (newB w.heap.size) s (gatherTo ds es t)∧Below w.heap.size w wr) (fun _ j _=>n0 - (intOf j).toNat)
  case atStart=>exact ⟨0,Nat.zero_le _,rfl,Lib.hid rfl,OwnRow.nil _ _ _ _ _,Below.refl _ _⟩
  case round=>
   obtain ⟨t,ht,rfl,HZ,hown,hbr⟩:=hrel
   by_cases hlt:t<n0
   ·have hltI:(t:Int)<(n0:Int):=by omega
    have hgeI:(0:Int)≤(t:Int):=by omega
    obtain rfl:=h0.ptr (by omega)
    obtain rfl:=h1.ptr (by omega)
    obtain ⟨pWx1,pWx2,pWx3,pWx4,pWx5,pBx1,pBx2,pBx3,pBx4,pBx5,c0,c1,c2,c3,c4,c5,yW,yB⟩:=grd_cells (h0.keep hbr) (gx_get (by rw [HL0.out];exact hlt))
    obtain ⟨qWx1,qWx2,qWx3,qWx4,qWx5,qBx1,qBx2,qBx3,qBx4,qBx5,e0,e1,e2,e3,e4,e5,zW,zB⟩:=grd_cells (h1.keep hbr) (gx_get (by rw [HL1.out];exact hlt))
    obtain ⟨A,hA⟩:∃ A,A=gx ds t:=⟨_,rfl⟩
    obtain ⟨B,hB⟩:∃ B,B=gx es t:=⟨_,rfl⟩
    rw [← hA] at c0 c1 c3 c4 yW yB
    rw [← hB] at e0 e1 e3 e4 zW zB
    have HA:=Lib.hid hA
    have HB:=Lib.hid hB
    have CW:Cells3 wr b0 (o0+t*6) _ _ _:=⟨c0,c1,c2⟩
    have CB:Cells3 wr b0 (o0+t*6+3) _ _ _:=⟨c3,c4,c5⟩
    have DW:Cells3 wr b1 (o1+t*6) _ _ _:=⟨e0,e1,e2⟩
    have DB:Cells3 wr b1 (o1+t*6+3) _ _ _:=⟨e3,e4,e5⟩
    clear hA hB c0 c1 c2 c3 c4 c5 e0 e1 e2 e3 e4 e5
    obtain ⟨av,cv,hsv⟩:=hown.slice
    rw [gatherTo_length] at hsv
    subst hsv
    have HOB:=Lib.hid hown.base_le
    have hwz:=hbr.size
    have hlb0:b0<wr.heap.size:=(h0.keep hbr).lt (by omega)
    have hlb1:b1<wr.heap.size:=(h1.keep hbr).lt (by omega)
    go_upto_region 7 with (fail)
    go_region_held3 (fun w'=>w'.cell? ⟨b0,o0+t*6,none⟩=some (.int .i64 A.W.rows)∧w'.cell? ⟨b0,o0+t*6+1,none⟩=some (.int .i64 A.W.cols)∧w'.cell? ⟨b0,o0+t*6+2,none⟩=some (.slice pWx1 pWx2 pWx3)∧w'.cell? ⟨b1,o1+t*6,none⟩=some (.int .i64 B.W.rows)∧w'.cell? ⟨b1,o1+t*6+1,none⟩=some (.int .i64 B.W.cols)∧w'.cell? ⟨b1,o1+t*6+2,none⟩=some (.slice qWx1 qWx2 qWx3)) (exact cells33c (by repeat (first|(with_reducible first|exact CW|refine Cells3.alloc ?_ _|refine Cells3.drewN ?_ _|refine Cells3.drew ?_|(refine Cells3.far ?_ ?_ _;rotate_left 1;(first|(dsimp only;omega)|omega|(simp;omega)|simp))|refine Cells3.keep ?_ hb5)|exact CW)) (by repeat (first|(with_reducible first|exact DW|refine Cells3.alloc ?_ _|refine Cells3.drewN ?_ _|refine Cells3.drew ?_|(refine Cells3.far ?_ ?_ _;rotate_left 1;(first|(dsimp only;omega)|omega|(simp;omega)|simp))|refine Cells3.keep ?_ hb5)|exact DW))) ((go_at_call 47;go_must (refine (refLossFault_any A.W B.W _ _ _ (MatAt.mk (show IntsAt _ pWx1 pWx2 pWx3 pWx4 pWx5 A.W.cells from yW.k)) (MatAt.mk (show IntsAt _ qWx1 qWx2 qWx3 qWx4 qWx5 B.W.cells from zW.k))).mono ?_);go_must (rintro e w5 ⟨rfl,hb5⟩)))
    obtain ⟨wA,rfl⟩:∃ wA,wA=w5:=⟨_,rfl⟩
    replace CW:=(show Cells3 wA b0 (o0+t*6) (.int .i64 A.W.rows) (.int .i64 A.W.cols) (.slice pWx1 pWx2 pWx3) from (by repeat (first|(with_reducible first|exact CW|refine Cells3.alloc ?_ _|refine Cells3.drewN ?_ _|refine Cells3.drew ?_|(refine Cells3.far ?_ ?_ _;rotate_left 1;(first|(dsimp only;omega)|omega|(simp;omega)|simp))|refine Cells3.keep ?_ hb5)|exact CW)))
    have hcA:=hb5
    replace CB:=(show Cells3 wA b0 (o0+t*6+3) (.int .i64 A.B.rows) (.int .i64 A.B.cols) (.slice pBx1 pBx2 pBx3) from (by repeat (first|(with_reducible first|exact CB|refine Cells3.alloc ?_ _|refine Cells3.drewN ?_ _|refine Cells3.drew ?_|(refine Cells3.far ?_ ?_ _;rotate_left 1;(first|(dsimp only;omega)|omega|(simp;omega)|simp))|refine Cells3.keep ?_ hcA)|exact CB)))
    replace DB:=(show Cells3 wA b1 (o1+t*6+3) (.int .i64 B.B.rows) (.int .i64 B.B.cols) (.slice qBx1 qBx2 qBx3) from (by repeat (first|(with_reducible first|exact DB|refine Cells3.alloc ?_ _|refine Cells3.drewN ?_ _|refine Cells3.drew ?_|(refine Cells3.far ?_ ?_ _;rotate_left 1;(first|(dsimp only;omega)|omega|(simp;omega)|simp))|refine Cells3.keep ?_ hcA)|exact DB)))
    replace DW:=(show Cells3 wA b1 (o1+t*6) (.int .i64 B.W.rows) (.int .i64 B.W.cols) (.slice qWx1 qWx2 qWx3) from (by repeat (first|(with_reducible first|exact DW|refine Cells3.alloc ?_ _|refine Cells3.drewN ?_ _|refine Cells3.drew ?_|(refine Cells3.far ?_ ?_ _;rotate_left 1;(first|(dsimp only;omega)|omega|(simp;omega)|simp))|refine Cells3.keep ?_ hcA)|exact DW)))
    replace yB:=(show IntsAt wA pBx1 pBx2 pBx3 pBx4 pBx5 A.B.cells from (by first|exact yB.k1 hcA|exact yB.k))
    replace zB:=(show IntsAt wA qBx1 qBx2 qBx3 qBx4 qBx5 B.B.cells from (by first|exact zB.k1 hcA|exact zB.k))
    replace yW:=(show IntsAt wA pWx1 pWx2 pWx3 pWx4 pWx5 A.W.cells from (by first|exact yW.k1 hcA|exact yW.k))
    replace zW:=(show IntsAt wA qWx1 qWx2 qWx3 qWx4 qWx5 B.W.cells from (by first|exact zW.k1 hcA|exact zW.k))
    replace hown:=OwnRow.keep hown (show Below wr.heap.size wr wA from (Below.x1 hcA))
    have hbA:Below w.heap.size w wA:=(Below.y1 hcA hbr)
    have hzA:wr.heap.size≤wA.heap.size:=(show Below wr.heap.size wr wA from (Below.x1 hcA)).size
    clear hb5 hcA
    by_cases hf1:lossFault A.W B.W=0
    ·rw [hf1]
     have HFW:=Lib.hid hf1
     clear hf1 hbr
     go_upto_region 9 with (fail)
     go_region_held3 (fun w'=>w'.cell? ⟨b0,o0+t*6+ 3,none⟩=some (.int .i64 A.B.rows)∧w'.cell? ⟨b0,o0+t*6+4,none⟩=some (.int .i64 A.B.cols)∧w'.cell? ⟨b0,o0+t*6+5,none⟩=some (.slice pBx1 pBx2 pBx3)∧w'.cell? ⟨b1,o1+t*6+ 3,none⟩=some (.int .i64 B.B.rows)∧w'.cell? ⟨b1,o1+t*6+4,none⟩=some (.int .i64 B.B.cols)∧w'.cell? ⟨b1,o1+t*6+5,none⟩=some (.slice qBx1 qBx2 qBx3)) (exact cells33c (by repeat (first|(with_reducible first|exact CB|refine Cells3.alloc ?_ _|refine Cells3.drewN ?_ _|refine Cells3.drew ?_|(refine Cells3.far ?_ ?_ _;rotate_left 1;(first|(dsimp only;omega)|omega|(simp;omega)|simp))|refine Cells3.keep ?_ hb5)|exact CB)) (by repeat (first|(with_reducible first|exact DB|refine Cells3.alloc ?_ _|refine Cells3.drewN ?_ _|refine Cells3.drew ?_|(refine Cells3.far ?_ ?_ _;rotate_left 1;(first|(dsimp only;omega)|omega|(simp;omega)|simp))|refine Cells3.keep ?_ hb5)|exact DB))) ((go_at_call 47;go_must (refine (refLossFault_any A.B B.B _ _ _ (MatAt.mk (show IntsAt _ pBx1 pBx2 pBx3 pBx4 pBx5 A.B.cells from yB.k)) (MatAt.mk (show IntsAt _ qBx1 qBx2 qBx3 qBx4 qBx5 B.B.cells from zB.k))).mono ?_);go_must (rintro e w5 ⟨rfl,hb5⟩)))
     obtain ⟨wD,rfl⟩:∃ wD,wD=w5:=⟨_,rfl⟩
     replace CW:=(show Cells3 wD b0 (o0+t*6) (.int .i64 A.W.rows) (.int .i64 A.W.cols) (.slice pWx1 pWx2 pWx3) from (by repeat (first|(with_reducible first|exact CW|refine Cells3.alloc ?_ _|refine Cells3.drewN ?_ _|refine Cells3.drew ?_|(refine Cells3.far ?_ ?_ _;rotate_left 1;(first|(dsimp only;omega)|omega|(simp;omega)|simp))|refine Cells3.keep ?_ hb5)|exact CW)))
     have hcD:=hb5
     replace CB:=(show Cells3 wD b0 (o0+t*6+3) (.int .i64 A.B.rows) (.int .i64 A.B.cols) (.slice pBx1 pBx2 pBx3) from (by repeat (first|(with_reducible first|exact CB|refine Cells3.alloc ?_ _|refine Cells3.drewN ?_ _|refine Cells3.drew ?_|(refine Cells3.far ?_ ?_ _;rotate_left 1;(first|(dsimp only;omega)|omega|(simp;omega)|simp))|refine Cells3.keep ?_ hcD)|exact CB)))
     replace DB:=(show Cells3 wD b1 (o1+t*6+3) (.int .i64 B.B.rows) (.int .i64 B.B.cols) (.slice qBx1 qBx2 qBx3) from (by repeat (first|(with_reducible first|exact DB|refine Cells3.alloc ?_ _|refine Cells3.drewN ?_ _|refine Cells3.drew ?_|(refine Cells3.far ?_ ?_ _;rotate_left 1;(first|(dsimp only;omega)|omega|(simp;omega)|simp))|refine Cells3.keep ?_ hcD)|exact DB)))
     replace DW:=(show Cells3 wD b1 (o1+t*6) (.int .i64 B.W.rows) (.int .i64 B.W.cols) (.slice qWx1 qWx2 qWx3) from (by repeat (first|(with_reducible first|exact DW|refine Cells3.alloc ?_ _|refine Cells3.drewN ?_ _|refine Cells3.drew ?_|(refine Cells3.far ?_ ?_ _;rotate_left 1;(first|(dsimp only;omega)|omega|(simp;omega)|simp))|refine Cells3.keep ?_ hcD)|exact DW)))
     replace yB:=(show IntsAt wD pBx1 pBx2 pBx3 pBx4 pBx5 A.B.cells from (by first|exact yB.k1 hcD|exact yB.k))
     replace zB:=(show IntsAt wD qBx1 qBx2 qBx3 qBx4 qBx5 B.B.cells from (by first|exact zB.k1 hcD|exact zB.k))
     replace yW:=(show IntsAt wD pWx1 pWx2 pWx3 pWx4 pWx5 A.W.cells from (by first|exact yW.k1 hcD|exact yW.k))
     replace zW:=(show IntsAt wD qWx1 qWx2 qWx3 qWx4 qWx5 B.W.cells from (by first|exact zW.k1 hcD|exact zW.k))
     replace hown:=OwnRow.keep hown (show Below wA.heap.size wA wD from (Below.x1 hcD))
     have hbD:Below w.heap.size w wD:=(Below.y1 hcD hbA)
     have hzD:wA.heap.size≤wD.heap.size:=(show Below wA.heap.size wA wD from (Below.x1 hcD)).size
     clear hb5 hcD
     by_cases hf2:lossFault A.B B.B=0
     ·rw [hf2]
      have HFB:=Lib.hid hf2
      have hD0:b0<wD.heap.size:=by omega
      have hD1:b1<wD.heap.size:=by omega
      clear hf2 hbA
      go_upto_region 12 with (fail)
      go_cut [9] (fun s1 wx=>∃ p a5 n5 k5 b5 o5,s1=.pointer (some ⟨p,0,none⟩)∧Box wx p [.int .i64 (matAdd A.W B.W).rows,.int .i64 (matAdd A.W B.W).cols,.slice a5 n5 k5] 41∧IntsAt wx a5 n5 k5 b5 o5 (matAdd A.W B.W).cells∧(0<n5→wD.heap.size≤b5)∧Below wD.heap.size wD wx)
      case first=>
       go_region_held3 (fun w'=>w'.cell? ⟨b0,o0+t*6,none⟩=some (.int .i64 A.W.rows)∧w'.cell? ⟨b0,o0+t*6+1,none⟩=some (.int .i64 A.W.cols)∧w'.cell? ⟨b0,o0+t*6+2,none⟩=some (.slice pWx1 pWx2 pWx3)∧w'.cell? ⟨b1,o1+t*6,none⟩=some (.int .i64 B.W.rows)∧w'.cell? ⟨b1,o1+t*6+1,none⟩=some (.int .i64 B.W.cols)∧w'.cell? ⟨b1,o1+t*6+2,none⟩=some (.slice qWx1 qWx2 qWx3)) (exact cells33c (by repeat (first|(with_reducible first|exact CW|refine Cells3.alloc ?_ _|refine Cells3.drewN ?_ _|refine Cells3.drew ?_|(refine Cells3.far ?_ ?_ _;rotate_left 1;(first|(dsimp only;omega)|omega|(simp;omega)|simp))|refine Cells3.keep ?_ hb5)|exact CW)) (by repeat (first|(with_reducible first|exact DW|refine Cells3.alloc ?_ _|refine Cells3.drewN ?_ _|refine Cells3.drew ?_|(refine Cells3.far ?_ ?_ _;rotate_left 1;(first|(dsimp only;omega)|omega|(simp;omega)|simp))|refine Cells3.keep ?_ hb5)|exact DW))) ((go_at_call 48;go_must (refine (refMatAdd_all A.W B.W _ _ _ (MatAt.mk (show IntsAt _ pWx1 pWx2 pWx3 pWx4 pWx5 A.W.cells from yW.k)) (MatAt.mk (show IntsAt _ qWx1 qWx2 qWx3 qWx4 qWx5 B.W.cells from zW.k)) HFW.out).mono ?_);go_must (rintro e w5 ⟨v5,rfl,⟨a5,n5,k5,b5,o5,rfl,hn5,x5⟩,hb5⟩);(try (refine (fun (P1:Box w5 (wD.heap.size) [.int .i64 0,.int .i64 0,.slice none 0 0] 41)=>?_) ?_;rotate_left 1;(with_reducible refine Box.keep ?_ hb5);(focus ((repeat (first|(with_reducible refine (Box.new' _ (wD.heap.size) _ _ ?_);(simp;done))|(with_reducible refine Box.alloc ?_ _)|(with_reducible refine Box.drew ?_)|(with_reducible refine Box.drewN ?_ _)));done));have P1c:=P1.cell;have P1f:=P1.thawed;have P1z:=P1.lt))))
       all_goals (
        go_wp2_with fail
        go_meet
        simp at hn5
        exact ⟨_,a5,n5,k5,b5,o5,rfl,(by repeat (first|(with_reducible first|(refine (Box.new' _ _ _ _ ?_);(simp;done))|refine Box.alloc ?_ _|refine Box.drewN ?_ _|refine Box.drew ?_|refine Box.set6z ?_ _ _ _ _ _ _|refine Box.set3z ?_ _ _ _|refine Box.fx ?_ _|refine Box.keep ?_ hb5))),(by repeat (first|(with_reducible first|exact x5|refine IntsAt.alloc ?_ _|refine IntsAt.drewN ?_ _|refine IntsAt.drew ?_|(refine IntsAt.set ?_ ?_ _;rotate_left 1;(intro h0;have hq0:=hn5 h0;first|(dsimp only;omega)|omega|(simp;omega)|simp)))|exact x5)),fun h=>by have:=hn5 h;omega,(Below.x1 hb5)⟩)
      case rest=>
      obtain ⟨pA,aA,nA,kA,bA,oA,rfl,QA,xA,lA,hcA⟩:=hcut
      obtain ⟨wE,rfl⟩:∃ wE,wE=wc:=⟨_,rfl⟩
      replace CB:=CB.keep hcA
      replace DB:=DB.keep hcA
      replace yB:=yB.keep hcA
      replace zB:=zB.keep hcA
      replace hown:=hown.keep hcA
      have hbE:Below w.heap.size w wE:=(Below.y1 hcA hbD)
      have hzE:=hcA.size
      have QA:=QA
      have QAc:=QA.cell
      have QAf:=QA.thawed
      have QAz:=QA.lt
      have QAk:=lt_add QAz
      have hlA:=xA.lt
      clear CW DW yW zW hbD
      go_upto_region 13 with (fail)
      go_cut [10] (fun s1 wx=>∃ p a5 n5 k5 b5 o5,s1=.pointer (some ⟨p,0,none⟩)∧Box wx p [.int .i64 (matAdd A.B B.B).rows,.int .i64 (matAdd A.B B.B).cols,.slice a5 n5 k5] 41∧IntsAt wx a5 n5 k5 b5 o5 (matAdd A.B B.B).cells∧(0<n5→wE.heap.size≤b5)∧Below wE.heap.size wE wx)
      case first=>
       go_region_held3 (fun w'=>w'.cell? ⟨b0,o0+t*6+ 3,none⟩=some (.int .i64 A.B.rows)∧w'.cell? ⟨b0,o0+t*6+4,none⟩=some (.int .i64 A.B.cols)∧w'.cell? ⟨b0,o0+t*6+5,none⟩=some (.slice pBx1 pBx2 pBx3)∧w'.cell? ⟨b1,o1+t*6+ 3,none⟩=some (.int .i64 B.B.rows)∧w'.cell? ⟨b1,o1+t*6+4,none⟩=some (.int .i64 B.B.cols)∧w'.cell? ⟨b1,o1+t*6+5,none⟩=some (.slice qBx1 qBx2 qBx3)) (exact cells33c (by repeat (first|(with_reducible first|exact CB|refine Cells3.alloc ?_ _|refine Cells3.drewN ?_ _|refine Cells3.drew ?_|(refine Cells3.far ?_ ?_ _;rotate_left 1;(first|(dsimp only;omega)|omega|(simp;omega)|simp))|refine Cells3.keep ?_ hb5)|exact CB)) (by repeat (first|(with_reducible first|exact DB|refine Cells3.alloc ?_ _|refine Cells3.drewN ?_ _|refine Cells3.drew ?_|(refine Cells3.far ?_ ?_ _;rotate_left 1;(first|(dsimp only;omega)|omega|(simp;omega)|simp))|refine Cells3.keep ?_ hb5)|exact DB))) ((go_at_call 48;go_must (refine (refMatAdd_all A.B B.B _ _ _ (MatAt.mk (show IntsAt _ pBx1 pBx2 pBx3 pBx4 pBx5 A.B.cells from yB.k)) (MatAt.mk (show IntsAt _ qBx1 qBx2 qBx3 qBx4 qBx5 B.B.cells from zB.k)) HFB.out).mono ?_);go_must (rintro e w5 ⟨v5,rfl,⟨a5,n5,k5,b5,o5,rfl,hn5,x5⟩,hb5⟩);(try (refine (fun (P1:Box w5 (wE.heap.size) [.int .i64 0,.int .i64 0,.slice none 0 0] 41)=>?_) ?_;rotate_left 1;(with_reducible refine Box.keep ?_ hb5);(focus ((repeat (first|(with_reducible refine (Box.new' _ (wE.heap.size) _ _ ?_);(simp;done))|(with_reducible refine Box.alloc ?_ _)|(with_reducible refine Box.drew ?_)|(with_reducible refine Box.drewN ?_ _)));done));have P1c:=P1.cell;have P1f:=P1.thawed;have P1z:=P1.lt))))
       all_goals (
        go_wp2_with fail
        go_meet
        simp at hn5
        exact ⟨_,a5,n5,k5,b5,o5,rfl,(by repeat (first|(with_reducible first|(refine (Box.new' _ _ _ _ ?_);(simp;done))|refine Box.alloc ?_ _|refine Box.drewN ?_ _|refine Box.drew ?_|refine Box.set6z ?_ _ _ _ _ _ _|refine Box.set3z ?_ _ _ _|refine Box.fx ?_ _|refine Box.keep ?_ hb5))),(by repeat (first|(with_reducible first|exact x5|refine IntsAt.alloc ?_ _|refine IntsAt.drewN ?_ _|refine IntsAt.drew ?_|(refine IntsAt.set ?_ ?_ _;rotate_left 1;(intro h0;have hq0:=hn5 h0;first|(dsimp only;omega)|omega|(simp;omega)|simp)))|exact x5)),fun h=>by have:=hn5 h;omega,(Below.x1 hb5)⟩)
      case rest=>
      obtain ⟨pB,aB,nB,kB,bB,oB,rfl,QB,xB,lB,hcB⟩:=hcut
      obtain ⟨wB,rfl⟩:∃ wB,wB=wc:=⟨_,rfl⟩
      have hkwB:Below wE.heap.size wE wB:=(Below.x1 hcB)
      replace QA:=QA.keep hkwB
      replace QAc:=QA.cell
      replace QAf:=QA.thawed
      replace QAz:=QA.lt
      replace QAk:=lt_add QAz
      replace xA:=xA.keep hkwB
      replace hown:=hown.keep hcB
      have hbB:Below w.heap.size w wB:=(Below.y1 hcB hbE)
      have hzB:=hcB.size
      have QB:=QB
      have QBc:=QB.cell
      have QBf:=QB.thawed
      have QBz:=QB.lt
      have QBk:=lt_add QBz
      have hrowq:∀ r,(Value.slice av t cv).ownBlock=some r→r<wr.heap.size:=fun r hr=>(HOB.out r hr).2
      have HROW:=Lib.hid hrowq
      have hlen:(gatherTo ds es t).length=t:=gatherTo_length ds es t
      have HLEN:=Lib.hid hlen
      have HSUC:Hid (gatherTo ds es (t+1)=gatherTo ds es t++[pairSum A B]):=Lib.hid (by rw [gatherTo_succ,HA.out,HB.out])
      have HNX:Hid (gatherFaultTo ds es (t+1)=0):=Lib.hid (by rw [gather_next HZ.out,← HA.out,← HB.out,pairFault_b HFW.out,HFB.out])
      clear hrowq hlen CB DB yB zB
      go_wp2_with (at_builtin;go_must (refine wpList_push rfl (.tmp 71) (.tmp 75) 23 rfl Form.grd w.heap.size (newB w.heap.size) 86 i0 (.agg #[.int .i64 0,.int .i64 0,.slice none 0 0,.int .i64 0,.int .i64 0,.slice none 0 0]) 80 Tryz.underlying23 hi hz0 hz1 hz2 rfl (by decide) (.slice av t cv) (gatherTo ds es t) rfl (hown.keep ((Below.refl wB.heap.size wB).alloc (Nat.le_refl _) _)) wB.heap.size 1 [.int .i64 (matAdd A.W B.W).rows,.int .i64 (matAdd A.W B.W).cols,.slice aA nA kA,.int .i64 (matAdd A.B B.B).rows,.int .i64 (matAdd A.B B.B).cols,.slice aB nB kB] 86 (pairSum A B) rfl (Box.new _ _ _) (reads_grd (d:=pairSum A B) (fun h=>⟨by have:=lA h;unfold newB;omega,fun e=>by have:=HROW.out _ e;have:=lA h;omega⟩) (xA.alloc _) (fun h=>⟨by have:=lB h;unfold newB;omega,fun e=>by have:=HROW.out _ e;have:=lB h;omega⟩) (xB.alloc _)) (by rw [HLEN.out];have:=HN.out;omega) (by rw [HLEN.out];unfold maxLen;omega) (by simp;omega) _ rfl ?_))
      intro g cap w' hown7 hgrow hgv hgl
      rw [HLEN.out] at hown7 ⊢
      have hbn:Below w.heap.size w w':=Below.grown (Below.al hbB _) hgrow (by simp;omega) (fun r hr=>(HOB.out r hr).1)
      go_wp2
      go_roundw
      case rel=>exact ⟨t+1,by omega,by go_num,HNX,by rw [HSUC.out];exact hown7,hbn⟩
      case measure=>simp [intOf];omega
     ·have HST:Hid (gatherFaultTo ds es n0=lossFault A.B B.B):=Lib.hid (by
       have e1:pairFault (gx ds t) (gx es t)=lossFault A.B B.B:=by rw [← HA.out,← HB.out,pairFault_b HFW.out]
       rw [gather_stop hlt HZ.out (by rw [e1];exact hf2),e1])
      have HNE:=Lib.hid hf2
      have q1:(lossFault A.B B.B == 0)=false:=by simp [hf2]
      have q2:(lossFault A.B B.B != 0)=true:=by simp [hf2]
      clear hf2
      go_wp2
      refine bodyPost_ret (v:=.tuple #[.slice none 0 0,.int .i64 (lossFault A.B B.B)]) (by simp [results,Tryz.results20,go_sem]) rfl ⟨.slice none 0 0,?_,hbD,?_,?_⟩
      ·rw [HST.out]
      ·exact fun h=>absurd (HST.out.symm.trans h) HNE.out
      ·exact fun _=>rfl
    ·have HST:Hid (gatherFaultTo ds es n0=lossFault A.W B.W):=Lib.hid (by
      have e1:pairFault (gx ds t) (gx es t)=lossFault A.W B.W:=by rw [← HA.out,← HB.out,pairFault_w hf1]
      rw [gather_stop hlt HZ.out (by rw [e1];exact hf1),e1])
     have HNE:=Lib.hid hf1
     have q1:(lossFault A.W B.W == 0)=false:=by simp [hf1]
     have q2:(lossFault A.W B.W != 0)=true:=by simp [hf1]
     clear hf1
     go_wp2
     refine bodyPost_ret (v:=.tuple #[.slice none 0 0,.int .i64 (lossFault A.W B.W)]) (by simp [results,Tryz.results20,go_sem]) rfl ⟨.slice none 0 0,?_,hbA,?_,?_⟩
     ·rw [HST.out]
     ·exact fun h=>absurd (HST.out.symm.trans h) HNE.out
     ·exact fun _=>rfl
   ·obtain rfl:t=n0:=by omega
    obtain ⟨av,cv,bb,hv,hbb,hrow⟩:=hown.row (G:=newB w.heap.size) (fun c hc _=>hc) (fun c hc=>hc)
    rw [gatherTo_length] at hv hbb hrow
    subst hv
    have HR:=Lib.hid hrow
    clear hown hrow
    go_wp2
    refine bodyPost_ret (v:=.tuple #[.slice av t cv,.int .i64 0]) (by simp [results,Tryz.results20,go_sem]) rfl ⟨.slice av t cv,?_,hbr,?_,?_⟩
    ·rw [HZ.out]
    ·exact fun _=>⟨_,_,_,rfl,HR.out⟩
    ·exact fun h=>absurd HZ.out h
 ·have hne:((n0:Int) != (n1:Int))=true:=by simp;omega
  have HGF:Hid (gatherFault ds es=2):=Lib.hid (by unfold gatherFault;rw [if_neg (by rw [HL0.out,HL1.out];exact hl)])
  rw [HGF.out]
  clear hl
  go_enter Tryz.func20,Tryz.ntmps20
  go_wp2
  refine bodyPost_ret (v:=.tuple #[.slice none 0 0,.int .i64 2]) (by simp [results,Tryz.results20,go_sem]) rfl ⟨.slice none 0 0,?_,Below.refl _ _,?_,?_⟩
  ·rfl
  ·exact fun h=>absurd h (by decide)
  ·exact fun _=>rfl
end Go.Proofs.YtchngeagnlngaaaGreatDoor
end
section
namespace Go.Proofs.YtchngeagnlngaaaGreatDoor
open Go.RowKit Gal
set_option maxRecDepth 100000
set_option maxHeartbeats 2000000
theorem refStepPart_any (R K:Nat) (hR:R≤24) (hK:K≤12) (xs ys zs:List Int) (ln kp:Int) (a0 a1 a2:Option Addr) (k0 k1 k2 b0 b1 b2 o0 o1 o2:Nat) (w:World) (x0:IntsAt w a0 (R*K) k0 b0 o0 xs) (x1:IntsAt w a1 (R*K) k1 b1 o1 ys) (x2:IntsAt w a2 (R*K) k2 b2 o2 zs) :
  Calls Tryz.prog 50 #[.agg #[.int .i64 R,.int .i64 K,.slice a0 (R*K:Nat) k0],.agg #[.int .i64 R,.int .i64 K,.slice a1 (R*K:Nat) k1],.agg #[.int .i64 R,.int .i64 K,.slice a2 (R*K:Nat) k2],.agg #[.int .i64 ln,.int .i64 kp]] w fun e w'=>
   ∃ x y,e=.returned (.tuple #[x,y])∧MatNew w.heap.size w' x (stepTo ⟨R,K,xs⟩ ⟨R,K,ys⟩ ⟨R,K,zs⟩ ln kp)∧MatNew w.heap.size w' y (stepSpeed ⟨R,K,xs⟩ ⟨R,K,ys⟩ ⟨R,K,zs⟩ kp)∧Below w.heap.size w w':=by
 have hrk:R*K≤288:=Nat.mul_le_mul hR hK
 have l0:=x0.lt
 obtain ⟨kept,hkept⟩:∃ l,l=upto (fun k=>mul (ix ys k) kp) (R*K):=⟨_,rfl⟩
 obtain ⟨speed,hspeed⟩:∃ l,l=upto (fun k=>add (ix kept k) (ix zs k)) (R*K):=⟨_,rfl⟩
 obtain ⟨less,hless⟩:∃ l,l=upto (fun k=>mul (ix speed k) ln) (R*K):=⟨_,rfl⟩
 have HK1:Hid (upto (fun k=>mul (ix ys k) kp) (R*K)=kept):=Lib.hid hkept.symm
 have HK2:Hid (upto (fun k=>add (ix kept k) (ix zs k)) (R*K)=speed):=Lib.hid hspeed.symm
 have HK3:Hid (upto (fun k=>mul (ix speed k) ln) (R*K)=less):=Lib.hid hless.symm
 have HS1:Hid (stepTo ⟨R,K,xs⟩ ⟨R,K,ys⟩ ⟨R,K,zs⟩ ln kp=⟨R,K,upto (fun k=>sub (ix xs k) (ix less k)) (R*K)⟩):=Lib.hid (by
  unfold stepTo
  rw [show (Mat.mk (R:Int) K xs).cells.length=R*K from x0.len]
  have:upto (fun k=>sub (ix xs k) (mul (add (mul (ix ys k) kp) (ix zs k)) ln)) (R*K)=upto (fun k=>sub (ix xs k) (ix less k)) (R*K):=
   upto_congr fun k hk=>by rw [hless,upto_ix hk,hspeed,upto_ix hk,hkept,upto_ix hk]
  exact congrArg _ this)
 have HS2:Hid (stepSpeed ⟨R,K,xs⟩ ⟨R,K,ys⟩ ⟨R,K,zs⟩ kp=⟨R,K,speed⟩):=Lib.hid (by
  unfold stepSpeed
  rw [show (Mat.mk (R:Int) K xs).cells.length=R*K from x0.len]
  have:upto (fun k=>add (mul (ix ys k) kp) (ix zs k)) (R*K)=speed:=by rw [hspeed];exact upto_congr fun k hk=>by rw [hkept,upto_ix hk]
  exact congrArg _ this)
 have lk:kept.length=R*K:=by rw [hkept];exact upto_length _ _
 have ls:speed.length=R*K:=by rw [hspeed];exact upto_length _ _
 have ly:ys.length=R*K:=x1.len
 have lz:zs.length=R*K:=x2.len
 have HLK:=Lib.hid lk
 have HLS:=Lib.hid ls
 have HLY:=Lib.hid ly
 have HLZ:=Lib.hid lz
 clear hkept hspeed hless lk ls ly lz
 go_enter Tryz.func50,Tryz.ntmps50
 go_wp2_with fail
 refine (refMatTimes_any R K hR hK ys kp _ _ (MatAt.mk (x1.alloc _ |>.alloc _ |>.alloc _ |>.alloc _ |>.alloc _ |>.alloc _)) HLY.out).mono ?_
 rw [HK1.out]
 rintro e w1 ⟨v1,rfl,⟨a3,n3,k3,b3,o3,rfl,hn3,x3⟩,hb1⟩
 have B0:=((show Box _ w.heap.size [.int .i64 R,.int .i64 K,.slice a0 (R*K:Nat) k0] 41 from Box.x0)).keep hb1
 have B0c:=B0.cell
 have B0f:=B0.thawed
 have B0z:=B0.lt
 have B0k:=lt_add B0z
 have B2:=((show Box _ (w.heap.size+1+1) [.int .i64 R,.int .i64 K,.slice a2 (R*K:Nat) k2] 41 from Box.x0)).keep hb1
 have B2c:=B2.cell
 have B2f:=B2.thawed
 have B2z:=B2.lt
 have B2k:=lt_add B2z
 have B3:=((show Box _ (w.heap.size+1+1+1) [.int .i64 ln,.int .i64 kp] 28 from Box.x0)).keep hb1
 have B3c:=B3.cell
 have B3f:=B3.thawed
 have B3z:=B3.lt
 have B3k:=lt_add B3z
 have B4:=((show Box _ (w.heap.size+1+1+1+1) [.int .i64 0,.int .i64 0,.slice none 0 0] 41 from Box.x0)).keep hb1
 have B4c:=B4.cell
 have B4f:=B4.thawed
 have B4z:=B4.lt
 have B4k:=lt_add B4z
 have B5:=((show Box _ (w.heap.size+1+1+1+1+1) [.int .i64 0,.int .i64 0,.slice none 0 0] 41 from Box.x0)).keep hb1
 have B5c:=B5.cell
 have B5f:=B5.thawed
 have B5z:=B5.lt
 have B5k:=lt_add B5z
 have hkw1:Below w.heap.size w w1:=(Below.x1 hb1)
 replace x0:=x0.keep hkw1
 replace x2:=x2.keep hkw1
 have hsw1:=hkw1.size
 have hz1:w.heap.size+1+1+1+1+1<w1.heap.size:=B5z
 obtain rfl:R*K=n3:=by rw [← HLK.out];exact x3.len
 go_wp2_with fail
 refine (refMatAdd_any R K hR hK kept zs _ _ _ (MatAt.mk (x3.alloc _)) (MatAt.mk (x2.alloc _)) HLK.out HLZ.out).mono ?_
 rw [HK2.out]
 rintro e w2 ⟨v2,rfl,⟨a4,n4,k4,b4,o4,rfl,hn4,x4⟩,hb2⟩
 have hkw2:Below w1.heap.size w1 w2:=(Below.x1 hb2)
 replace B0:=B0.keep hkw2
 replace B0c:=B0.cell
 replace B0f:=B0.thawed
 replace B0z:=B0.lt
 replace B0k:=lt_add B0z
 replace B3:=B3.keep hkw2
 replace B3c:=B3.cell
 replace B3f:=B3.thawed
 replace B3z:=B3.lt
 replace B3k:=lt_add B3z
 replace B4:=B4.keep hkw2
 replace B4c:=B4.cell
 replace B4f:=B4.thawed
 replace B4z:=B4.lt
 replace B4k:=lt_add B4z
 replace B5:=B5.keep hkw2
 replace B5c:=B5.cell
 replace B5f:=B5.thawed
 replace B5z:=B5.lt
 replace B5k:=lt_add B5z
 replace x0:=x0.keep hkw2
 have hsw2:=hkw2.size
 have hn4':0<n4→w1.heap.size<b4:=fun h=>by have:=hn4 h;simp at this;omega
 have hz2:w1.heap.size<w2.heap.size:=by have:=hb2.size;simp at this;omega
 have l4:=x4.lt
 obtain rfl:R*K=n4:=by rw [← HLS.out];exact x4.len
 go_wp2_with fail
 refine (refMatTimes_any R K hR hK speed ln _ _ (MatAt.mk (x4.alloc _)) HLS.out).mono ?_
 rw [HK3.out]
 rintro e w3 ⟨v3,rfl,⟨a5,n5,k5,b5,o5,rfl,hn5,x5⟩,hb3⟩
 have Q1:=(Box.new w2 [.int .i64 R,.int .i64 K,.slice a4 (R*K:Nat) k4] 41).keep hb3
 have Q1c:=Q1.cell
 have Q1f:=Q1.thawed
 have Q1z:=Q1.lt
 have Q1k:=lt_add Q1z
 have hkw3:Below w2.heap.size w2 w3:=(Below.x1 hb3)
 replace B0:=B0.keep hkw3
 replace B0c:=B0.cell
 replace B0f:=B0.thawed
 replace B0z:=B0.lt
 replace B0k:=lt_add B0z
 replace B3:=B3.keep hkw3
 replace B3c:=B3.cell
 replace B3f:=B3.thawed
 replace B3z:=B3.lt
 replace B3k:=lt_add B3z
 replace B4:=B4.keep hkw3
 replace B4c:=B4.cell
 replace B4f:=B4.thawed
 replace B4z:=B4.lt
 replace B4k:=lt_add B4z
 replace B5:=B5.keep hkw3
 replace B5c:=B5.cell
 replace B5f:=B5.thawed
 replace B5z:=B5.lt
 replace B5k:=lt_add B5z
 replace x0:=x0.keep hkw3
 replace x4:=x4.keep hkw3
 have hsw3:=hkw3.size
 have hz3:w2.heap.size<w3.heap.size:=by have:=hb3.size;simp at this;omega
 have hn5':0<n5→w2.heap.size<b5:=fun h=>by have:=hn5 h;simp at this;omega
 have l5:=x5.lt
 obtain rfl:R*K=n5:=by
  have e:less.length=R*K:=by rw [← HK3.out];exact upto_length _ _
  rw [← e];exact x5.len
 go_wp2_with fail
 refine (blank_any R K (by omega) (by omega) _).mono ?_
 rintro e w4 ⟨b,rfl,hbb,hB,hb4⟩
 have Q2:=(Box.new w3 [.int .i64 R,.int .i64 K,.slice a5 (R*K:Nat) k5] 41).keep hb4
 have Q2c:=Q2.cell
 have Q2f:=Q2.thawed
 have Q2z:=Q2.lt
 have Q2k:=lt_add Q2z
 have hkw4:Below w3.heap.size w3 w4:=(Below.x1 hb4)
 replace B0:=B0.keep hkw4
 replace B0c:=B0.cell
 replace B0f:=B0.thawed
 replace B0z:=B0.lt
 replace B0k:=lt_add B0z
 replace B4:=B4.keep hkw4
 replace B4c:=B4.cell
 replace B4f:=B4.thawed
 replace B4z:=B4.lt
 replace B4k:=lt_add B4z
 replace B5:=B5.keep hkw4
 replace B5c:=B5.cell
 replace B5f:=B5.thawed
 replace B5z:=B5.lt
 replace B5k:=lt_add B5z
 replace Q1:=Q1.keep hkw4
 replace Q1c:=Q1.cell
 replace Q1f:=Q1.thawed
 replace Q1z:=Q1.lt
 replace Q1k:=lt_add Q1z
 replace x0:=x0.keep hkw4
 replace x4:=x4.keep hkw4
 replace x5:=x5.keep hkw4
 have hsw4:=hkw4.size
 have hz4:w3.heap.size<w4.heap.size:=by have:=hb4.size;simp at this;omega
 have hbb':w3.heap.size<b:=by simp at hbb;omega
 have hbl:b<w4.heap.size:=hB.lt
 have hw4:Below w.heap.size w w4:=(by repeat (first|(with_reducible first|exact Below.refl _ _|refine Below.al ?_ _|refine Below.drN ?_ _|refine Below.drew ?_|refine Below.sx ?_ _|refine Below.go ?_ hb4|refine Below.go ?_ hb3|refine Below.go ?_ hb2|refine Below.go ?_ hb1)|exact Below.refl _ _))
 go_wp2_with fail
 go_loopw [14] (fun i wr=>∃ k:Nat,k≤R*K∧i=.int .i64 k∧Far (·=b) w4 wr∧Box wr w4.heap.size [.int .i64 R,.int .i64 K,.slice (some ⟨b,0,none⟩) (R*K) (R*K)] 41 ∧
  Box wr b ((pad (fun k=>sub (ix xs k) (ix less k)) (R*K) k).map (Value.int .i64)) 3) (fun i _=>R*K - (intOf i).toNat)
 case atStart=>exact ⟨0,Nat.zero_le _,rfl,(Far.refl _ _).al _,Box.new _ _ _,by rw [pad_zero];exact hB.alloc _⟩
 case round=>
  obtain ⟨k,hk,rfl,hfr,Bm,Bc⟩:=hrel
  have Bmc:=Bm.cell
  have Bmf:=Bm.thawed
  have Bmz:=Bm.lt
  replace B0:=B0.farS hfr (by omega)
  have B0c:=B0.cell
  have B0f:=B0.thawed
  have B0z:=B0.lt
  have B0k:=lt_add B0z
  replace B4:=B4.farS hfr (by omega)
  have B4c:=B4.cell
  have B4f:=B4.thawed
  have B4z:=B4.lt
  have B4k:=lt_add B4z
  replace B5:=B5.farS hfr (by omega)
  have B5c:=B5.cell
  have B5f:=B5.thawed
  have B5z:=B5.lt
  have B5k:=lt_add B5z
  replace Q1:=Q1.farS hfr (by omega)
  have Q1c:=Q1.cell
  have Q1f:=Q1.thawed
  have Q1z:=Q1.lt
  have Q1k:=lt_add Q1z
  replace Q2:=Q2.farS hfr (by omega)
  have Q2c:=Q2.cell
  have Q2f:=Q2.thawed
  have Q2z:=Q2.lt
  have Q2k:=lt_add Q2z
  replace x0:=x0.farS hfr (by intro hn e;have:=l0 hn;omega)
  replace x5:=x5.farS hfr (by intro hn e;have:=hn5' hn;have:=l5 hn;omega)
  replace x4:=x4.farS hfr (by intro hn e;have:=hn4' hn;have:=l4 hn;omega)
  by_cases hlt:k<R*K
  ·obtain rfl:=x0.ptr (by omega)
   obtain rfl:=x5.ptr (by omega)
   have c0:=x0.cell k hlt
   have c1:=x5.cell k hlt
   have cc:=Bc.icell (k:=k) (by rw [pad_length];exact hlt)
   rw [pad_ix hlt,if_neg (Nat.lt_irrefl _)] at cc
   have hltI:(k:Int)<(R:Int)*K:=by rw [← Int.natCast_mul];omega
   have cf:=Bc.thawed k
   go_wp2_with fail
   refine wp_region_still_tail 14 (by kernel_rfl) (by kernel_rfl) ?_
   simp only [List.take_succ_cons,List.take_zero,List.drop_succ_cons,List.drop_zero]
   repeat (first|still_call (still0 (rsub_any _ _ _))|still_step)
   refine wpStill_nil ?_
   go_wp2
   go_roundw
   case rel=>
    refine ⟨k+1,by omega,by go_num,(hfr.drew).st (fun _=>rfl) _,Bm.far (a:=⟨b,k,none⟩) (by dsimp only;omega) _,?_⟩
    have hs:=Bc.iset k (sub (ix xs k) (ix less k))
    rw [pad_set (g:=fun k=>sub (ix xs k) (ix less k)) hlt] at hs
    exact hs
   case measure=>simp [intOf];omega
  ·obtain rfl:k=R*K:=by omega
   have hbe:Below w.heap.size w wr:=Far.toBelow hw4 hfr (by have:=hw4.size;omega) (fun b hb=>by subst hb;omega)
   have I1:=ints_pad' Bc (by unfold maxLen;omega)
   have hl1:0<R*K→w.heap.size+1+1+1+1+1<b:=fun _=>by omega
   have hl2:0<R*K→w.heap.size+1+1+1+1+1<b4:=fun h=>by have:=hn4' h;omega
   clear x0 x5
   go_wp2_with fail
   go_region
   all_goals (
    go_wp2_with fail
    refine bodyPost_ret (v:=.tuple #[.agg #[.int .i64 R,.int .i64 K,.slice (some ⟨b,0,none⟩) (R*K) (R*K)],.agg #[.int .i64 R,.int .i64 K,.slice a4 (R*K:Nat) k4]]) (by simp [results,Tryz.results50,go_sem,B4c,B5c]) rfl ⟨_,_,rfl,?_,?_,?_⟩
    ·rw [HS1.out]
     exact MatNew.mk (b:=b) (off:=0) (fun _=>by omega) (by repeat (first|(with_reducible first|exact I1|refine IntsAt.alloc ?_ _|refine IntsAt.drewN ?_ _|refine IntsAt.drew ?_|(refine IntsAt.set ?_ ?_ _;rotate_left 1;(intro h0;have hq0:=hl1 h0;first|(dsimp only;omega)|omega|(simp;omega)|simp)))|exact I1))
    ·rw [HS2.out]
     exact MatNew.mk (b:=b4) (off:=o4) (fun h=>by have:=hl2 h;omega) (by repeat (first|(with_reducible first|exact x4|refine IntsAt.alloc ?_ _|refine IntsAt.drewN ?_ _|refine IntsAt.drew ?_|(refine IntsAt.set ?_ ?_ _;rotate_left 1;(intro h0;have hq0:=hl2 h0;first|(dsimp only;omega)|omega|(simp;omega)|simp)))|exact x4))
    ·exact (Below.y0 hbe))
end Go.Proofs.YtchngeagnlngaaaGreatDoor
end
