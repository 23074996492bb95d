/- Texts joined: RStep3, RTrain3, RTrain4, RTrain5, SameL, StaLaw. -/
import Derived.Test.YtchngeagnlngaaaGreatDoorJ51
import Derived.Test.YtchngeagnlngaaaGreatDoorJ39
import Derived.Test.YtchngeagnlngaaaGreatDoorJ26
import Derived.Test.YtchngeagnlngaaaGreatDoorJ37
import Derived.Test.YtchngeagnlngaaaGreatDoorJ23
import Derived.Deep.DeepCutAuto
import Derived.Deep.RegionHeld3
import Derived.Test.YtchngeagnlngaaaGreatDoorJ45
import Derived.Test.YtchngeagnlngaaaGreatDoorJ33
import Derived.Test.YtchngeagnlngaaaGreatDoorJ47
import Derived.Test.YtchngeagnlngaaaGreatDoorJ50
import Derived.Test.YtchngeagnlngaaaGreatDoorJ15
import Derived.Test.YtchngeagnlngaaaGreatDoorJ13
import Derived.Test.YtchngeagnlngaaaGreatDoorJ43
import Derived.Test.YtchngeagnlngaaaGreatDoorJ24
import Derived.Deep.CutBlock
import Derived.Test.YtchngeagnlngaaaGreatDoorJ19
import Derived.Test.YtchngeagnlngaaaGreatDoorJ22
import Derived.BigQuiet
import Derived.Test.YtchngeagnlngaaaGreatDoorJ40
set_option linter.unusedVariables false
set_option linter.unusedSimpArgs false
set_option linter.unusedSectionVars false
section
namespace Gal
open Go Go.RowKit
section
variable {w:World} {b i c d j k e:Nat} {u:TypeId} {z0 z1 z2 z3 z4 z5 z6 x0 x1 x2 x3 x4 x5 y0 y1 y2 y3 y4 y5 r0 r1:Value}
theorem cells_W4 (h:Cells7 w b i z0 z1 z2 z3 z4 z5 z6) (m:Cells6 w c j x0 x1 x2 x3 x4 x5) (l:Cells6 w d k y0 y1 y2 y3 y4 y5) (r:Box w e [r0,r1] u) :
  w.cell? ⟨b,i+1,none⟩=some z1∧w.cell? ⟨b,i+2,none⟩=some z2∧w.cell? ⟨b,i+3,none⟩=some z3∧w.cell? ⟨c,j,none⟩=some x0∧w.cell? ⟨c,j+1,none⟩=some x1∧w.cell? ⟨c,j+2,none⟩=some x2 ∧
  w.cell? ⟨d,k,none⟩=some y0∧w.cell? ⟨d,k+1,none⟩=some y1∧w.cell? ⟨d,k+2,none⟩=some y2∧w.cell? ⟨e,0,none⟩=some r0∧w.cell? ⟨e,1,none⟩=some r1:=
 ⟨h.c1,h.c2,h.c3,m.c0,m.c1,m.c2,l.c0,l.c1,l.c2,r.cell 0,r.cell 1⟩
theorem cells_B4 (h:Cells7 w b i z0 z1 z2 z3 z4 z5 z6) (m:Cells6 w c j x0 x1 x2 x3 x4 x5) (l:Cells6 w d k y0 y1 y2 y3 y4 y5) (r:Box w e [r0,r1] u) :
  w.cell? ⟨b,i+4,none⟩=some z4∧w.cell? ⟨b,i+5,none⟩=some z5∧w.cell? ⟨b,i+6,none⟩=some z6∧w.cell? ⟨c,j+3,none⟩=some x3∧w.cell? ⟨c,j+4,none⟩=some x4∧w.cell? ⟨c,j+5,none⟩=some x5 ∧
  w.cell? ⟨d,k+3,none⟩=some y3∧w.cell? ⟨d,k+4,none⟩=some y4∧w.cell? ⟨d,k+5,none⟩=some y5∧w.cell? ⟨e,0,none⟩=some r0∧w.cell? ⟨e,1,none⟩=some r1:=
 ⟨h.c4,h.c5,h.c6,m.c3,m.c4,m.c5,l.c3,l.c4,l.c5,r.cell 0,r.cell 1⟩
theorem cells_33k {t s:TypeId} (h:Box w b [z0,z1,z2] t) (m:Box w c [x0,x1,x2] s) (hk:w.cell? ⟨d,k,none⟩=some y0) :
  w.cell? ⟨b,0,none⟩=some z0∧w.cell? ⟨b,1,none⟩=some z1∧w.cell? ⟨b,2,none⟩=some z2∧w.cell? ⟨c,0,none⟩=some x0∧w.cell? ⟨c,1,none⟩=some x1∧w.cell? ⟨c,2,none⟩=some x2∧w.cell? ⟨d,k,none⟩=some y0:=
 ⟨h.cell 0,h.cell 1,h.cell 2,m.cell 0,m.cell 1,m.cell 2,hk⟩
end
end Gal
namespace Go.Proofs.YtchngeagnlngaaaGreatDoor
open Go.RowKit Gal
set_option maxRecDepth 100000
set_option maxHeartbeats 2000000
theorem stepPart_is (mw mv md:Mat) (ln kp:Int) (a0 a1 a2:Option Addr) (n k0 k1 k2 b0 b1 b2 o0 o1 o2:Nat) (w:World) (hs:mw.fault=0∧likeShape mv mw∧likeShape md mw) (x0:IntsAt w a0 n k0 b0 o0 mw.cells) (x1:IntsAt w a1 n k1 b1 o1 mv.cells) (x2:IntsAt w a2 n k2 b2 o2 md.cells) :
  Calls Tryz.prog 50 #[.agg #[.int .i64 mw.rows,.int .i64 mw.cols,.slice a0 n k0],.agg #[.int .i64 mv.rows,.int .i64 mv.cols,.slice a1 n k1],.agg #[.int .i64 md.rows,.int .i64 md.cols,.slice a2 n k2],.agg #[.int .i64 ln,.int .i64 kp]] w fun e w'=>
   ∃ x y,e=.returned (.tuple #[x,y])∧MatNew w.heap.size w' x (stepTo mw mv md ln kp)∧MatNew w.heap.size w' y (stepSpeed mw mv md kp)∧Below w.heap.size w w':=by
 obtain ⟨hf,⟨h1,h2⟩,⟨h3,h4⟩⟩:=hs
 obtain ⟨R,K,xs,rfl,hR,hK,hl,_⟩:=mat_form hf
 obtain ⟨r1,c1,ys⟩:=mv
 obtain ⟨r2,c2,zs⟩:=md
 dsimp only at h1 h2 h3 h4 x0 x1 x2
 subst h1 h2 h3 h4
 obtain rfl:R*K=n:=by rw [← hl];exact x0.len
 exact refStepPart_any R K hR hK xs ys zs ln kp a0 a1 a2 k0 k1 k2 b0 b1 b2 o0 o1 o2 w x0 x1 x2
theorem refStepOf_any (ls:List Lay) (vs ds:List Grd) (ln kp:Int) (F G H:Nat→Prop) (a0 a1 a2:Option Addr) (n n1 n2 k0 k1 k2 b0 b1 b2 o0 o1 o2:Nat) (w:World) (h0:RowAt Form.lay w F a0 n k0 b0 o0 ls) (h1:RowAt Form.grd w G a1 n1 k1 b1 o1 vs) (h2:RowAt Form.grd w H a2 n2 k2 b2 o2 ds)
    (hf:stepFault ls vs ds ln kp=0) :
    Calls Tryz.prog 22 #[.slice a0 n k0,.slice a1 n1 k1,.slice a2 n2 k2,.agg #[.int .i64 ln,.int .i64 kp]] w fun e w'=>∃ a' c' b' a'' c'' b'',e=.returned (.tuple #[.slice a' n c',.slice a'' n c''])∧Below w.heap.size w w' ∧
      RowAt Form.lay w' (newB w.heap.size) a' n c' b' 0 (stepLays ls vs ds ln kp n)∧RowAt Form.grd w' (newB w.heap.size) a'' n c'' b'' 0 (stepGrds ls vs ds kp n):=by
  obtain ⟨_,h12,e1,e2,hfit⟩:=stepFault_ok hf
  rw [h0.len] at h12 e1 e2 hfit
  obtain rfl:n1=n:=by rw [← e1];exact h1.len.symm
  obtain rfl:n2=n1:=by rw [← e2];exact h2.len.symm
  have HFIT:=Lib.hid hfit
  have HL1:=Lib.hid e1
  have HL2:=Lib.hid e2
  obtain ⟨i0,hi,hz0,hz1,hz2⟩:=info_parts info_layer
  obtain ⟨i1,hi',hz0',hz1',hz2'⟩:=info_parts info_grad
  clear hf hfit e1 e2
  go_enter Tryz.func22,Tryz.ntmps22
  go_wp2_with fail
  obtain ⟨w0,hw0,R0,hb0⟩:∃ w0,(w.alloc (.cells #[.int .i64 ln,.int .i64 kp] 28))=w0∧Box w0 w.heap.size [.int .i64 ln,.int .i64 kp] 28∧Below w.heap.size w w0:=⟨_,rfl,Box.new _ _ _,Below.x0⟩
  rw [hw0]
  clear hw0
  have hz0w:w.heap.size<w0.heap.size:=R0.lt
  go_loopw [10,11,12] (fun s u i wr=>∃ (t:Nat) (E:Nat→Prop),t≤n2∧i=.int .i64 t∧Hid (∀ b,E b→b<wr.heap.size∧s.ownBlock≠some b∧u.ownBlock≠some b)∧OwnRow Form.lay 84 wr w0.heap.size E s (stepLays ls vs ds ln kp t)∧OwnRow Form.grd 86 wr w0.heap.size E u (stepGrds ls vs ds kp t)∧Below w0.heap.size w0 wr∧Hid (∀ b,E b→w.heap.size≤b)) (fun _ _ i _=>n2 - (intOf i).toNat)
  case atStart=>exact ⟨0,fun _=>False,Nat.zero_le _,rfl,Lib.hid fun _ h=>h.elim,OwnRow.nil _ _ _ _ _,OwnRow.nil _ _ _ _ _,Below.refl _ _,Lib.hid fun _ h=>h.elim⟩
  case round=>
    obtain ⟨t,E,ht,rfl,HE,hown,hown',hbr0,HLO⟩:=hrel
    have hbr:Below w.heap.size w wr:=(by repeat (first|(with_reducible first|exact Below.refl _ _|exact hbr0|exact hb0|refine Below.al ?_ _|refine Below.drN ?_ _|refine Below.drew ?_|refine Below.sx ?_ _|refine Below.go ?_ hbr0)|exact Below.refl _ _|exact hbr0|exact hb0))
    by_cases hlt:t<n2
    · have hltI:(t:Int)<(n2:Int):=by omega
      obtain rfl:=h0.ptr (by omega)
      obtain rfl:=h1.ptr (by omega)
      obtain rfl:=h2.ptr (by omega)
      obtain ⟨a3,n3,k3,b3,o3,a4,n4,k4,b4,o4,cK,c0,c1,c2,c3,c4,c5,x3,x4⟩:=lay_cells (h0.keep hbr) hlt
      obtain ⟨a5,n5,k5,b5,o5,a6,n6,k6,b6,o6,e0,e1,e2,e3,e4,e5,x5,x6⟩:=grd_cells (h1.keep hbr) (gx_get (by rw [HL1.out];exact hlt))
      obtain ⟨a7,n7,k7,b7,o7,a8,n8,k8,b8,o8,f0,f1,f2,f3,f4,f5,x7,x8⟩:=grd_cells (h2.keep hbr) (gx_get (by rw [HL2.out];exact hlt))
      obtain ⟨l,hl⟩:∃ l,l=lx ls t:=⟨_,rfl⟩
      obtain ⟨v,hv⟩:∃ v,v=gx vs t:=⟨_,rfl⟩
      obtain ⟨d,hd⟩:∃ d,d=gx ds t:=⟨_,rfl⟩
      rw [← hl] at cK c0 c1 c3 c4 x3 x4
      rw [← hv] at e0 e1 e3 e4 x5 x6
      rw [← hd] at f0 f1 f3 f4 x7 x8
      have HX:Hid (l=lx ls t∧v=gx vs t∧d=gx ds t):=Lib.hid ⟨hl,hv,hd⟩
      have HFF:Hid (fitsFault l v d=0):=Lib.hid (by rw [hl,hv,hd];exact HFIT.out t hlt)
      obtain ⟨z3,z4,z5,z6,z7,z8⟩:=fits_lens HFF.out
      rw [x3.len] at z3 z5 z7
      rw [x4.len] at z4 z6 z8
      rw [x5.len] at z5
      rw [x6.len] at z6
      rw [x7.len] at z7
      rw [x8.len] at z8
      obtain rfl:n3=n5:=z5.symm
      obtain rfl:n3=n7:=z7.symm
      obtain rfl:n4=n6:=z6.symm
      obtain rfl:n4=n8:=z8.symm
      have H3:Hid (l.W.fault=0∧likeShape v.W l.W∧likeShape d.W l.W):=Lib.hid (by obtain ⟨q0,_,_,_,_,q5,q6,q7,q8⟩:=fitsFault_ok HFF.out;exact ⟨(Lay.fault_ok q0).2.2.1,q5,q7⟩)
      have H4:Hid (l.B.fault=0∧likeShape v.B l.B∧likeShape d.B l.B):=Lib.hid (by obtain ⟨q0,_,_,_,_,q5,q6,q7,q8⟩:=fitsFault_ok HFF.out;exact ⟨(Lay.fault_ok q0).2.2.2.1,q6,q8⟩)
      have cw0:w.cell? ⟨b0,o0+t*7,none⟩=some (.int .i64 l.kind):=by
        obtain ⟨_,_,_,_,_,_,_,_,_,_,q,_⟩:=lay_cells h0 hlt
        rw [hl];exact q
      obtain ⟨av,cv,hsv⟩:=hown.slice
      rw [stepLays_length] at hsv
      subst hsv
      obtain ⟨aw,cw,hsw⟩:=hown'.slice
      rw [stepGrds_length] at hsw
      subst hsw
      have HO:=Lib.hid hown.base_le
      have HU:=Lib.hid hown'.base_le
      have ML:Cells7 wr b0 (o0+t*7) (.int .i64 l.kind) (.int .i64 l.W.rows) (.int .i64 l.W.cols) (.slice a3 n3 k3) (.int .i64 l.B.rows) (.int .i64 l.B.cols) (.slice a4 n4 k4):=⟨cK,c0,c1,c2,c3,c4,c5⟩
      have MV:Cells6 wr b1 (o1+t*6) (.int .i64 v.W.rows) (.int .i64 v.W.cols) (.slice a5 n3 k5) (.int .i64 v.B.rows) (.int .i64 v.B.cols) (.slice a6 n4 k6):=⟨e0,e1,e2,e3,e4,e5⟩
      have MD:Cells6 wr b2 (o2+t*6) (.int .i64 d.W.rows) (.int .i64 d.W.cols) (.slice a7 n3 k7) (.int .i64 d.B.rows) (.int .i64 d.B.cols) (.slice a8 n4 k8):=⟨f0,f1,f2,f3,f4,f5⟩
      have hzr:=hbr0.size
      have lb0:b0<wr.heap.size:=by have:=h0.lt (by omega);omega
      have lb1:b1<wr.heap.size:=by have:=h1.lt (by omega);omega
      have lb2:b2<wr.heap.size:=by have:=h2.lt (by omega);omega
      have lbw:w.heap.size<wr.heap.size:=by omega
      have y3:=x3
      have y4:=x4
      have y5:=x5
      have y6:=x6
      have y7:=x7
      have y8:=x8
      have R1:Box wr w.heap.size [.int .i64 ln,.int .i64 kp] 28:=R0.keep hbr0
      clear R0 hl hv hd cK c0 c1 c2 c3 c4 c5 e0 e1 e2 e3 e4 e5 f0 f1 f2 f3 f4 f5 x3 x4 x5 x6 x7 x8 z5 z6 z7 z8 z3 z4
      have R0:=R1
      clear R1
      go_wp2_with fail
      go_cut [13,14] (fun s1 s2 wx=>∃ p9 pA a9 m9 k9 b9 o9 aA mA kA bA oA,s1=.pointer (some ⟨p9,0,none⟩)∧s2=.pointer (some ⟨pA,0,none⟩)∧Box wx p9 [.int .i64 (stepTo l.W v.W d.W ln kp).rows,.int .i64 (stepTo l.W v.W d.W ln kp).cols,.slice a9 m9 k9] 41∧Box wx pA [.int .i64 (stepSpeed l.W v.W d.W kp).rows,.int .i64 (stepSpeed l.W v.W d.W kp).cols,.slice aA mA kA] 41∧IntsAt wx a9 m9 k9 b9 o9 (stepTo l.W v.W d.W ln kp).cells∧(0<m9→wr.heap.size≤b9)∧IntsAt wx aA mA kA bA oA (stepSpeed l.W v.W d.W kp).cells∧(0<mA→wr.heap.size≤bA)∧Below wr.heap.size wr wx)
      case first=>
        go_region_held3 (fun w'=>w'.cell? ⟨b0,o0+t*7+1,none⟩=some (.int .i64 l.W.rows)∧w'.cell? ⟨b0,o0+t*7+2,none⟩=some (.int .i64 l.W.cols)∧w'.cell? ⟨b0,o0+t*7+3,none⟩=some (.slice a3 n3 k3)∧w'.cell? ⟨b1,o1+t*6,none⟩=some (.int .i64 v.W.rows)∧w'.cell? ⟨b1,o1+t*6+1,none⟩=some (.int .i64 v.W.cols)∧w'.cell? ⟨b1,o1+t*6+2,none⟩=some (.slice a5 n3 k5)∧w'.cell? ⟨b2,o2+t*6,none⟩=some (.int .i64 d.W.rows)∧w'.cell? ⟨b2,o2+t*6+1,none⟩=some (.int .i64 d.W.cols)∧w'.cell? ⟨b2,o2+t*6+2,none⟩=some (.slice a7 n3 k7)∧w'.cell? ⟨w.heap.size,0,none⟩=some (.int .i64 ln)∧w'.cell? ⟨w.heap.size,1,none⟩=some (.int .i64 kp)) (exact cells_W4 (u:=28) (show Cells7 _ b0 (o0+t*7) (.int .i64 l.kind) (.int .i64 l.W.rows) (.int .i64 l.W.cols) (.slice a3 n3 k3) (.int .i64 l.B.rows) (.int .i64 l.B.cols) (.slice a4 n4 k4) from (by repeat (first|(with_reducible first|exact ML|refine Cells7.alloc ?_ _|refine Cells7.drewN ?_ _|refine Cells7.drew ?_|(refine Cells7.far ?_ ?_ _;rotate_left 1;(first|(dsimp only;omega)|omega|(simp;omega)|simp))|refine Cells7.keep ?_ hb8)|exact ML))) (show Cells6 _ b1 (o1+t*6) (.int .i64 v.W.rows) (.int .i64 v.W.cols) (.slice a5 n3 k5) (.int .i64 v.B.rows) (.int .i64 v.B.cols) (.slice a6 n4 k6) from (by repeat (first|(with_reducible first|exact MV|refine Cells6.alloc ?_ _|refine Cells6.drewN ?_ _|refine Cells6.drew ?_|(refine Cells6.far ?_ ?_ _;rotate_left 1;(first|(dsimp only;omega)|omega|(simp;omega)|simp))|refine Cells6.keep ?_ hb8)|exact MV))) (show Cells6 _ b2 (o2+t*6) (.int .i64 d.W.rows) (.int .i64 d.W.cols) (.slice a7 n3 k7) (.int .i64 d.B.rows) (.int .i64 d.B.cols) (.slice a8 n4 k8) from (by repeat (first|(with_reducible first|exact MD|refine Cells6.alloc ?_ _|refine Cells6.drewN ?_ _|refine Cells6.drew ?_|(refine Cells6.far ?_ ?_ _;rotate_left 1;(first|(dsimp only;omega)|omega|(simp;omega)|simp))|refine Cells6.keep ?_ hb8)|exact MD))) (show Box _ w.heap.size [.int .i64 ln,.int .i64 kp] 28 from (by first|exact R0.k1 hb8|exact R0.k))) ((go_at_call 50;go_must (refine (stepPart_is l.W v.W d.W ln kp _ _ _ n3 _ _ _ _ _ _ _ _ _ _ H3.out (show IntsAt _ a3 n3 k3 b3 o3 l.W.cells from y3.k) (show IntsAt _ a5 n3 k5 b5 o5 v.W.cells from y5.k) (show IntsAt _ a7 n3 k7 b7 o7 d.W.cells from y7.k)).mono ?_);go_must (rintro e w8 ⟨x,y,rfl,⟨a9,m9,k9,b9,o9,rfl,hn9,i9⟩,⟨aA,mA,kA,bA,oA,rfl,hnA,iA⟩,hb8⟩);(try (refine (fun (P1:Box w8 wr.heap.size [.int .i64 0,.int .i64 0,.slice none 0 0] 41)=>?_) ?_;rotate_left 1;(with_reducible refine Box.keep ?_ hb8);(focus ((repeat (first|(with_reducible refine (Box.new' _ wr.heap.size _ _ ?_);(simp;done))|(with_reducible refine Box.alloc ?_ _)|(with_reducible refine Box.drew ?_)|(with_reducible refine Box.drewN ?_ _)));done));have P1c:=P1.cell;have P1f:=P1.thawed;have P1z:=P1.lt));(try (refine (fun (P2:Box w8 (wr.heap.size+1) [.int .i64 0,.int .i64 0,.slice none 0 0] 41)=>?_) ?_;rotate_left 1;(with_reducible refine Box.keep ?_ hb8);(focus ((repeat (first|(with_reducible refine (Box.new' _ (wr.heap.size+1) _ _ ?_);(simp;done))|(with_reducible refine Box.alloc ?_ _)|(with_reducible refine Box.drew ?_)|(with_reducible refine Box.drewN ?_ _)));done));have P2c:=P2.cell;have P2f:=P2.thawed;have P2z:=P2.lt))))
        all_goals (
          go_wp2_with fail
          go_meet
          have hbz:=hb8.size
          simp at hn9 hnA hbz
          exact ⟨_,_,a9,m9,k9,b9,o9,aA,mA,kA,bA,oA,rfl,rfl,(by repeat (first|(with_reducible first|(refine (Box.new' _ _ _ _ ?_);(simp;done))|refine Box.alloc ?_ _|refine Box.drewN ?_ _|refine Box.drew ?_|refine Box.set6z ?_ _ _ _ _ _ _|refine Box.set3z ?_ _ _ _|refine Box.fx ?_ _|refine Box.keep ?_ hb8))),(by repeat (first|(with_reducible first|(refine (Box.new' _ _ _ _ ?_);(simp;done))|refine Box.alloc ?_ _|refine Box.drewN ?_ _|refine Box.drew ?_|refine Box.set6z ?_ _ _ _ _ _ _|refine Box.set3z ?_ _ _ _|refine Box.fx ?_ _|refine Box.keep ?_ hb8))),(by repeat (first|(with_reducible first|exact i9|refine IntsAt.alloc ?_ _|refine IntsAt.drewN ?_ _|refine IntsAt.drew ?_|(refine IntsAt.set ?_ ?_ _;rotate_left 1;(intro h0;have hq0:=hn9 h0;first|(dsimp only;omega)|omega|(simp;omega)|simp)))|exact i9)),fun h=>by have:=hn9 h;omega,(by repeat (first|(with_reducible first|exact iA|refine IntsAt.alloc ?_ _|refine IntsAt.drewN ?_ _|refine IntsAt.drew ?_|(refine IntsAt.set ?_ ?_ _;rotate_left 1;(intro h0;have hq0:=hnA h0;first|(dsimp only;omega)|omega|(simp;omega)|simp)))|exact iA)),fun h=>by have:=hnA h;omega,(Below.x1 hb8)⟩)
      case rest=>
      obtain ⟨p9,pA,a9,m9,k9,b9,o9,aA,mA,kA,bA,oA,rfl,rfl,X9,XA,i9,hm9,iA,hmA,hbc0⟩:=hcut
      obtain ⟨wB,rfl⟩:∃ wB,wB=wc:=⟨_,rfl⟩
      have hzB:=hbc0.size
      replace ML:=ML.keep hbc0
      replace MV:=MV.keep hbc0
      replace MD:=MD.keep hbc0
      replace R0:=R0.keep hbc0
      replace y4:=y4.keep hbc0
      replace y6:=y6.keep hbc0
      replace y8:=y8.keep hbc0
      replace hown:=hown.keep hbc0
      replace hown':=hown'.keep hbc0
      replace lb0:b0<wB.heap.size:=by omega
      replace lb1:b1<wB.heap.size:=by omega
      replace lb2:b2<wB.heap.size:=by omega
      have lbw:w.heap.size<wB.heap.size:=by omega
      have t9:=i9.lt
      have tA:=iA.lt
      clear y3 y5 y7
      go_wp2_with fail
      go_cut [15,16] (fun s1 s2 wx=>∃ pB pC aB mB kB bB oB aC mC kC bC oC,s1=.pointer (some ⟨pB,0,none⟩)∧s2=.pointer (some ⟨pC,0,none⟩)∧Box wx pB [.int .i64 (stepTo l.B v.B d.B ln kp).rows,.int .i64 (stepTo l.B v.B d.B ln kp).cols,.slice aB mB kB] 41∧Box wx pC [.int .i64 (stepSpeed l.B v.B d.B kp).rows,.int .i64 (stepSpeed l.B v.B d.B kp).cols,.slice aC mC kC] 41∧IntsAt wx aB mB kB bB oB (stepTo l.B v.B d.B ln kp).cells∧(0<mB→wB.heap.size≤bB)∧IntsAt wx aC mC kC bC oC (stepSpeed l.B v.B d.B kp).cells∧(0<mC→wB.heap.size≤bC)∧Below wB.heap.size wB wx)
      case first=>
        go_region_held3 (fun w'=>w'.cell? ⟨b0,o0+t*7+4,none⟩=some (.int .i64 l.B.rows)∧w'.cell? ⟨b0,o0+t*7+5,none⟩=some (.int .i64 l.B.cols)∧w'.cell? ⟨b0,o0+t*7+6,none⟩=some (.slice a4 n4 k4)∧w'.cell? ⟨b1,o1+t*6+3,none⟩=some (.int .i64 v.B.rows)∧w'.cell? ⟨b1,o1+t*6+4,none⟩=some (.int .i64 v.B.cols)∧w'.cell? ⟨b1,o1+t*6+5,none⟩=some (.slice a6 n4 k6)∧w'.cell? ⟨b2,o2+t*6+3,none⟩=some (.int .i64 d.B.rows)∧w'.cell? ⟨b2,o2+t*6+4,none⟩=some (.int .i64 d.B.cols)∧w'.cell? ⟨b2,o2+t*6+5,none⟩=some (.slice a8 n4 k8)∧w'.cell? ⟨w.heap.size,0,none⟩=some (.int .i64 ln)∧w'.cell? ⟨w.heap.size,1,none⟩=some (.int .i64 kp)) (exact cells_B4 (u:=28) (show Cells7 _ b0 (o0+t*7) (.int .i64 l.kind) (.int .i64 l.W.rows) (.int .i64 l.W.cols) (.slice a3 n3 k3) (.int .i64 l.B.rows) (.int .i64 l.B.cols) (.slice a4 n4 k4) from (by repeat (first|(with_reducible first|exact ML|refine Cells7.alloc ?_ _|refine Cells7.drewN ?_ _|refine Cells7.drew ?_|(refine Cells7.far ?_ ?_ _;rotate_left 1;(first|(dsimp only;omega)|omega|(simp;omega)|simp))|refine Cells7.keep ?_ hb8)|exact ML))) (show Cells6 _ b1 (o1+t*6) (.int .i64 v.W.rows) (.int .i64 v.W.cols) (.slice a5 n3 k5) (.int .i64 v.B.rows) (.int .i64 v.B.cols) (.slice a6 n4 k6) from (by repeat (first|(with_reducible first|exact MV|refine Cells6.alloc ?_ _|refine Cells6.drewN ?_ _|refine Cells6.drew ?_|(refine Cells6.far ?_ ?_ _;rotate_left 1;(first|(dsimp only;omega)|omega|(simp;omega)|simp))|refine Cells6.keep ?_ hb8)|exact MV))) (show Cells6 _ b2 (o2+t*6) (.int .i64 d.W.rows) (.int .i64 d.W.cols) (.slice a7 n3 k7) (.int .i64 d.B.rows) (.int .i64 d.B.cols) (.slice a8 n4 k8) from (by repeat (first|(with_reducible first|exact MD|refine Cells6.alloc ?_ _|refine Cells6.drewN ?_ _|refine Cells6.drew ?_|(refine Cells6.far ?_ ?_ _;rotate_left 1;(first|(dsimp only;omega)|omega|(simp;omega)|simp))|refine Cells6.keep ?_ hb8)|exact MD))) (show Box _ w.heap.size [.int .i64 ln,.int .i64 kp] 28 from (by first|exact R0.k1 hb8|exact R0.k))) ((go_at_call 50;go_must (refine (stepPart_is l.B v.B d.B ln kp _ _ _ n4 _ _ _ _ _ _ _ _ _ _ H4.out (show IntsAt _ a4 n4 k4 b4 o4 l.B.cells from y4.k) (show IntsAt _ a6 n4 k6 b6 o6 v.B.cells from y6.k) (show IntsAt _ a8 n4 k8 b8 o8 d.B.cells from y8.k)).mono ?_);go_must (rintro e w8 ⟨x,y,rfl,⟨aB,mB,kB,bB,oB,rfl,hnB,iB⟩,⟨aC,mC,kC,bC,oC,rfl,hnC,iC⟩,hb8⟩);(try (refine (fun (P1:Box w8 wB.heap.size [.int .i64 0,.int .i64 0,.slice none 0 0] 41)=>?_) ?_;rotate_left 1;(with_reducible refine Box.keep ?_ hb8);(focus ((repeat (first|(with_reducible refine (Box.new' _ wB.heap.size _ _ ?_);(simp;done))|(with_reducible refine Box.alloc ?_ _)|(with_reducible refine Box.drew ?_)|(with_reducible refine Box.drewN ?_ _)));done));have P1c:=P1.cell;have P1f:=P1.thawed;have P1z:=P1.lt));(try (refine (fun (P2:Box w8 (wB.heap.size+1) [.int .i64 0,.int .i64 0,.slice none 0 0] 41)=>?_) ?_;rotate_left 1;(with_reducible refine Box.keep ?_ hb8);(focus ((repeat (first|(with_reducible refine (Box.new' _ (wB.heap.size+1) _ _ ?_);(simp;done))|(with_reducible refine Box.alloc ?_ _)|(with_reducible refine Box.drew ?_)|(with_reducible refine Box.drewN ?_ _)));done));have P2c:=P2.cell;have P2f:=P2.thawed;have P2z:=P2.lt))))
        all_goals (
          go_wp2_with fail
          go_meet
          have hbz:=hb8.size
          simp at hnB hnC hbz
          exact ⟨_,_,aB,mB,kB,bB,oB,aC,mC,kC,bC,oC,rfl,rfl,(by repeat (first|(with_reducible first|(refine (Box.new' _ _ _ _ ?_);(simp;done))|refine Box.alloc ?_ _|refine Box.drewN ?_ _|refine Box.drew ?_|refine Box.set6z ?_ _ _ _ _ _ _|refine Box.set3z ?_ _ _ _|refine Box.fx ?_ _|refine Box.keep ?_ hb8))),(by repeat (first|(with_reducible first|(refine (Box.new' _ _ _ _ ?_);(simp;done))|refine Box.alloc ?_ _|refine Box.drewN ?_ _|refine Box.drew ?_|refine Box.set6z ?_ _ _ _ _ _ _|refine Box.set3z ?_ _ _ _|refine Box.fx ?_ _|refine Box.keep ?_ hb8))),(by repeat (first|(with_reducible first|exact iB|refine IntsAt.alloc ?_ _|refine IntsAt.drewN ?_ _|refine IntsAt.drew ?_|(refine IntsAt.set ?_ ?_ _;rotate_left 1;(intro h0;have hq0:=hnB h0;first|(dsimp only;omega)|omega|(simp;omega)|simp)))|exact iB)),fun h=>by have:=hnB h;omega,(by repeat (first|(with_reducible first|exact iC|refine IntsAt.alloc ?_ _|refine IntsAt.drewN ?_ _|refine IntsAt.drew ?_|(refine IntsAt.set ?_ ?_ _;rotate_left 1;(intro h0;have hq0:=hnC h0;first|(dsimp only;omega)|omega|(simp;omega)|simp)))|exact iC)),fun h=>by have:=hnC h;omega,(Below.x1 hb8)⟩)
      case rest=>
      obtain ⟨pB,pC,aB,mB,kB,bB,oB,aC,mC,kC,bC,oC,rfl,rfl,XB,XC,iB,hmB,iC,hmC,hbc1⟩:=hcut
      obtain ⟨wD,rfl⟩:∃ wD,wD=wc:=⟨_,rfl⟩
      have hzD:=hbc1.size
      replace hown:=hown.keep hbc1
      replace hown':=hown'.keep hbc1
      replace X9:=X9.keep hbc1
      replace XA:=XA.keep hbc1
      replace i9:=i9.keep hbc1
      replace iA:=iA.keep hbc1
      have tB:=iB.lt
      have tC:=iC.lt
      obtain ⟨E',hE'⟩:∃ E':Nat→Prop,E'=fun b=>E b∨(0<m9∧b=b9)∨(0<mA∧b=bA)∨(0<mB∧b=bB)∨(0<mC∧b=bC):=⟨_,rfl⟩
      have HE':Hid (∀ b,E' b→b<wD.heap.size∧(Value.slice av t cv).ownBlock≠some b∧(Value.slice aw t cw).ownBlock≠some b):=Lib.hid fun b hb=>by
        rw [hE'] at hb
        rcases hb with hb|⟨hm,rfl⟩|⟨hm,rfl⟩|⟨hm,rfl⟩|⟨hm,rfl⟩
        · obtain ⟨q1,q2,q3⟩:=HE.out b hb;exact ⟨by omega,q2,q3⟩
        · have:=hm9 hm;have:=t9 hm;exact ⟨by omega,fun e=>by have:=(HO.out _ e).2;omega,fun e=>by have:=(HU.out _ e).2;omega⟩
        · have:=hmA hm;have:=tA hm;exact ⟨by omega,fun e=>by have:=(HO.out _ e).2;omega,fun e=>by have:=(HU.out _ e).2;omega⟩
        · have:=hmB hm;have:=tB hm;exact ⟨by omega,fun e=>by have:=(HO.out _ e).2;omega,fun e=>by have:=(HU.out _ e).2;omega⟩
        · have:=hmC hm;have:=tC hm;exact ⟨by omega,fun e=>by have:=(HO.out _ e).2;omega,fun e=>by have:=(HU.out _ e).2;omega⟩
      have HLO':Hid (∀ b,E' b→w.heap.size≤b):=Lib.hid fun b hb=>by
        rw [hE'] at hb
        rcases hb with hb|⟨hm,rfl⟩|⟨hm,rfl⟩|⟨hm,rfl⟩|⟨hm,rfl⟩
        · exact HLO.out b hb
        · have:=hm9 hm;omega
        · have:=hmA hm;omega
        · have:=hmB hm;omega
        · have:=hmC hm;omega
      have q9:0<m9→E' b9∧(Value.slice av t cv).ownBlock≠some b9:=fun h=>by have e:E' b9:=(by rw [hE'];exact Or.inr (Or.inl ⟨h,rfl⟩));exact ⟨e,(HE'.out _ e).2.1⟩
      have qB:0<mB→E' bB∧(Value.slice av t cv).ownBlock≠some bB:=fun h=>by have e:E' bB:=(by rw [hE'];exact Or.inr (Or.inr (Or.inr (Or.inl ⟨h,rfl⟩))));exact ⟨e,(HE'.out _ e).2.1⟩
      have qA:0<mA→E' bA∧(Value.slice aw t cw).ownBlock≠some bA:=fun h=>by have e:E' bA:=(by rw [hE'];exact Or.inr (Or.inr (Or.inl ⟨h,rfl⟩)));exact ⟨e,(HE'.out _ e).2.2⟩
      have qC:0<mC→E' bC∧(Value.slice aw t cw).ownBlock≠some bC:=fun h=>by have e:E' bC:=(by rw [hE'];exact Or.inr (Or.inr (Or.inr (Or.inr ⟨h,rfl⟩))));exact ⟨e,(HE'.out _ e).2.2⟩
      replace hown:=hown.wide (G:=E') (fun b hb _=>by rw [hE'];exact Or.inl hb)
      replace hown':=hown'.wide (G:=E') (fun b hb _=>by rw [hE'];exact Or.inl hb)
      have HAP:=Lib.hid (hown.apart hown' (by decide))
      have ne9:=hown.ne_box X9 (by decide)
      have neA:=hown.ne_box XA (by decide)
      have neB:=hown.ne_box XB (by decide)
      have neC:=hown.ne_box XC (by decide)
      have HBW:Below w0.heap.size w0 wD:=(by repeat (first|(with_reducible first|exact Below.refl _ _|exact hbr0|refine Below.al ?_ _|refine Below.drN ?_ _|refine Below.drew ?_|refine Below.sx ?_ _|refine Below.go ?_ hbc1|refine Below.go ?_ hbc0)|exact Below.refl _ _|exact hbr0))
      have ck0:=ML.c0
      have ckD:=cell_keep hbc1 ck0
      have q4:(stepLays ls vs ds ln kp t).length=t:=stepLays_length _ _ _ _ _ _
      have q4':(stepGrds ls vs ds kp t).length=t:=stepGrds_length _ _ _ _ _
      have HQ4:=Lib.hid q4
      have HQ4':=Lib.hid q4'
      clear hE' q4 q4' HE ML MV MD R0 y4 y6 y8 t9 tA tB tC ck0
      go_wp2_with fail
      go_region_held3 (fun w'=>w'.cell? ⟨p9,0,none⟩=some (.int .i64 (stepTo l.W v.W d.W ln kp).rows)∧w'.cell? ⟨p9,1,none⟩=some (.int .i64 (stepTo l.W v.W d.W ln kp).cols)∧w'.cell? ⟨p9,2,none⟩=some (.slice a9 m9 k9)∧w'.cell? ⟨pB,0,none⟩=some (.int .i64 (stepTo l.B v.B d.B ln kp).rows)∧w'.cell? ⟨pB,1,none⟩=some (.int .i64 (stepTo l.B v.B d.B ln kp).cols)∧w'.cell? ⟨pB,2,none⟩=some (.slice aB mB kB)∧w'.cell? ⟨b0,o0+t*7,none⟩=some (.int .i64 l.kind)) (first|exact cells_33k (t:=41) (s:=41) Z9 ZB zk|exact cells_33k (t:=41) (s:=41) (show Box _ p9 [.int .i64 (stepTo l.W v.W d.W ln kp).rows,.int .i64 (stepTo l.W v.W d.W ln kp).cols,.slice a9 m9 k9] 41 from X9.k) (show Box _ pB [.int .i64 (stepTo l.B v.B d.B ln kp).rows,.int .i64 (stepTo l.B v.B d.B ln kp).cols,.slice aB mB kB] 41 from XB.k) (cell_keep (w:=wD) Below.x0 ckD))
        (first
        | ((refine at_oper ⟨some 73,_,_,_,_,_⟩ ?_;go_must (refine step_push rfl (.tmp 63) (.tmp 72) 22 rfl Form.lay w0.heap.size E' 84 i0 (.agg #[.int .i64 0,.int .i64 0,.int .i64 0,.slice none 0 0,.int .i64 0,.int .i64 0,.slice none 0 0]) 88 Tryz.underlying22 hi hz0 hz1 hz2 (by rfl) (by decide) (.slice av t cv) (stepLays ls vs ds ln kp t) (by rfl) (OwnRow.keep hown Below.x0) wD.heap.size 1 [.int .i64 l.kind,.int .i64 (stepTo l.W v.W d.W ln kp).rows,.int .i64 (stepTo l.W v.W d.W ln kp).cols,.slice a9 m9 k9,.int .i64 (stepTo l.B v.B d.B ln kp).rows,.int .i64 (stepTo l.B v.B d.B ln kp).cols,.slice aB mB kB] 84 (stepLay l v d ln kp) (by rfl) Box.x0 (reads_lay (l:=stepLay l v d ln kp) (F:=fun b=>E' b∧(Value.slice av t cv).ownBlock≠some b) (b:=b9) (b':=bB) (o:=o9) (o':=oB) q9 i9.k qB iB.k) (by rw [HQ4.out];omega) (by rw [HQ4.out];unfold maxLen;omega) (by simp;omega) _ rfl ?_);intro g1 cap1 w9 hown1 hgrow hat hlt1;
            have Z9:Box w9 p9 [.int .i64 (stepTo l.W v.W d.W ln kp).rows,.int .i64 (stepTo l.W v.W d.W ln kp).cols,.slice a9 m9 k9] 41:=Box.grown X9.k hgrow (Ne.symm ne9);have ZB:Box w9 pB [.int .i64 (stepTo l.B v.B d.B ln kp).rows,.int .i64 (stepTo l.B v.B d.B ln kp).cols,.slice aB mB kB] 41:=Box.grown XB.k hgrow (Ne.symm neB);have ZA:Box w9 pA [.int .i64 (stepSpeed l.W v.W d.W kp).rows,.int .i64 (stepSpeed l.W v.W d.W kp).cols,.slice aA mA kA] 41:=Box.grown XA.k hgrow (Ne.symm neA);have ZC:Box w9 pC [.int .i64 (stepSpeed l.B v.B d.B kp).rows,.int .i64 (stepSpeed l.B v.B d.B kp).cols,.slice aC mC kC] 41:=Box.grown XC.k hgrow (Ne.symm neC);have zU:OwnRow Form.grd 86 w9 w0.heap.size E' (.slice aw t cw) (stepGrds ls vs ds kp t):=OwnRow.grown (OwnRow.keep hown' Below.x0) hgrow (fun b h e=>HAP.out b e.symm h) (fun b h _ e=>(HE'.out b h).2.1 e.symm);have hb9:Below w0.heap.size w0 w9:=Below.grown (Below.y0 HBW) hgrow (by simp;omega) (fun q hq=>(HO.out q hq).1);have zA:IntsAt w9 aA mA kA bA oA (stepSpeed l.W v.W d.W kp).cells:=IntsAt.grown (show IntsAt _ aA mA kA bA oA (stepSpeed l.W v.W d.W kp).cells from iA.k) hgrow (fun h e=>(HE'.out bA (qA h).1).2.1 e.symm);have zC:IntsAt w9 aC mC kC bC oC (stepSpeed l.B v.B d.B kp).cells:=IntsAt.grown (show IntsAt _ aC mC kC bC oC (stepSpeed l.B v.B d.B kp).cells from iC.k) hgrow (fun h e=>(HE'.out bC (qC h).1).2.1 e.symm);have zk:w9.cell? ⟨b0,o0+t*7,none⟩=some (.int .i64 l.kind):=cell_keep (Below.trans hb0 (Below.mono hb9 (by omega))) cw0))
        | fail)
      have ZA:=ZA
      have ZAc:=ZA.cell
      have ZAf:=ZA.thawed
      have ZAz:=ZA.lt
      have ZAk:=lt_add ZAz
      have ZC:=ZC
      have ZCc:=ZC.cell
      have ZCf:=ZC.thawed
      have ZCz:=ZC.lt
      have ZCk:=lt_add ZCz
      have hz9:wD.heap.size≤w9.heap.size:=by have:=hgrow.size;simp at this;omega
      have hg1:(Value.slice av t cv).ownBlock=some g1∨wD.heap.size≤g1:=by rcases hat with h|h;exact Or.inl h;exact Or.inr (by (try simp at h);omega)
      have HN1:Hid (∀ b,E' b→g1≠b):=Lib.hid fun b hb e=>by
        obtain ⟨u1,u2,u3⟩:=HE'.out b hb
        rcases hg1 with h|h
        · exact u2 (by rw [h,e])
        · omega
      have HAP1:=Lib.hid (hown1.apart zU (by decide))
      have lbu:∀ q,(Value.slice aw t cw).ownBlock=some q→q<w9.heap.size:=fun q hq=>(zU.base_le q hq).2
      have HLU:=Lib.hid lbu
      clear Z9 ZB zk X9 XA XB XC i9 iA iB iC ne9 neA neB neC hown hown' HBW hgrow hat hg1 lbu ckD
      go_wp2_with (at_builtin;refine wpList_push rfl (.tmp 74) (.tmp 78) 23 rfl Form.grd w0.heap.size E' 86 i1 (.agg #[.int .i64 0,.int .i64 0,.slice none 0 0,.int .i64 0,.int .i64 0,.slice none 0 0]) 80 Tryz.underlying23 hi' hz0' hz1' hz2' rfl (by decide) (.slice aw t cw) (stepGrds ls vs ds kp t) rfl ?c1 w9.heap.size 1 [.int .i64 (stepSpeed l.W v.W d.W kp).rows,.int .i64 (stepSpeed l.W v.W d.W kp).cols,.slice aA mA kA,.int .i64 (stepSpeed l.B v.B d.B kp).rows,.int .i64 (stepSpeed l.B v.B d.B kp).cols,.slice aC mC kC] 86 (stepGrd l v d kp) rfl ?c2 ?c3 ?c4 ?c5 ?c6 _ rfl ?_)
      case c1=>exact OwnRow.keep zU Below.x0
      case c2=>exact Box.x0
      case c3=>exact reads_grd (d:=stepGrd l v d kp) (F:=fun b=>E' b∧(Value.slice aw t cw).ownBlock≠some b) (b:=bA) (b':=bC) (o:=oA) (o':=oC) qA zA.k qC zC.k
      case c4=>rw [HQ4'.out];omega
      case c5=>rw [HQ4'.out];unfold maxLen;omega
      case c6=>have:=hb9.size;simp;omega
      intro g2 cap2 wE hown2 hgrow2 hat2 hlt2
      have hbE:Below w0.heap.size w0 wE:=Below.grown (Below.y0 hb9) hgrow2 (by have:=hb9.size;simp;omega) (fun q hq=>(HU.out q hq).1)
      have hownE:OwnRow Form.lay 84 wE w0.heap.size E' (.slice (some ⟨g1,0,none⟩) ((stepLays ls vs ds ln kp t).length+1) cap1) (stepLays ls vs ds ln kp t++[stepLay l v d ln kp]):=OwnRow.grown (OwnRow.keep hown1 Below.x0) hgrow2 (fun b h e=>HAP1.out b h e.symm) (fun b h _ e=>(HE'.out b h).2.2 e.symm)
      have hzE:w9.heap.size≤wE.heap.size:=by have:=hgrow2.size;simp at this;omega
      have HEE:Hid (∀ b,E' b→b<wE.heap.size∧g1≠b∧g2≠b):=Lib.hid fun b hb=>by
        obtain ⟨u1,u2,u3⟩:=HE'.out b hb
        refine ⟨by omega,HN1.out b hb,fun e=>?_⟩
        rcases hat2 with h|h
        · exact u3 (by rw [h,e])
        · (try simp at h);omega
      clear zU zA zC ZA ZAc ZAf ZAz ZAk ZC ZCc ZCf ZCz ZCk hb9 hown1 hgrow2 hat2 qA qB qC q9 HE'
      go_wp2
      go_roundw
      case rel=>
        refine ⟨t+1,E',by omega,by go_num,Lib.hid fun b hb=>?_,?_,?_,hbE,HLO'⟩
        · obtain ⟨u1,u2,u3⟩:=HEE.out b hb
          exact ⟨u1,by simp [Value.ownBlock];exact u2,by simp [Value.ownBlock];exact u3⟩
        · rw [stepLays_succ,← HX.out.1,← HX.out.2.1,← HX.out.2.2];exact hownE
        · rw [stepGrds_succ,← HX.out.1,← HX.out.2.1,← HX.out.2.2];exact hown2
      case measure=>simp [intOf];omega
    · obtain rfl:t=n2:=by omega
      obtain ⟨ar,cr,br,hr1,hr2,hr3⟩:=hown.row (G:=newB w.heap.size) (fun b hb _=>HLO.out b hb) (fun b hb=>by unfold newB;omega)
      obtain ⟨az,cz,bz,hs1,hs2,hs3⟩:=hown'.row (G:=newB w.heap.size) (fun b hb _=>HLO.out b hb) (fun b hb=>by unfold newB;omega)
      rw [stepLays_length] at hr1 hr3
      rw [stepGrds_length] at hs1 hs3
      subst hr1 hs1
      have HR:=Lib.hid hr3
      have HS:=Lib.hid hs3
      clear hown hown' hr3 hs3
      go_wp2
      go_ret2
      exact ⟨ar,cr,br,az,cz,bz,rfl,hbr,HR.out,HS.out⟩
end Go.Proofs.YtchngeagnlngaaaGreatDoor
end
section
set_option maxRecDepth 100000
namespace Go.Proofs.YtchngeagnlngaaaGreatDoor
open Go.RowKit Gal
set_option maxHeartbeats 8000000
theorem refPartOf_any (N:List Lay) (d:Bat) (F:Nat→Prop) (a0:Option Addr) (n k0 b0 o0:Nat) (vb:Value) (w:World) (h0:RowAt Form.lay w F a0 n k0 b0 o0 N) (hd:BatAt w vb d) (hpk:PartOk N d) :
  Calls Tryz.prog 19 #[.slice a0 n k0,vb] w fun e w'=>∃ a k b,e=.returned (.tuple #[.slice a n k,.int .i64 (partOff N d)])∧Below w.heap.size w w'∧RowAt Form.grd w' anyB a n k b 0 (partTurn N d):=by
 obtain ⟨a4,n4,k4,b4,o4,a5,n5,k5,b5,o5,rfl,y1,y2⟩:=hd
 have HL0:=Lib.hid h0.len
 have hn:=h0.max
 unfold maxLen at hn
 have hpt:partTurn N d=bDs N (netOuts N d.I n) (partBack N d) n:=by unfold partTurn sawOne;rw [HL0.out]
 have HPK:=Lib.hid hpk
 have hbk:netBackFault N (netOuts N d.I n) (partBack N d)=0:=by have:=hpk.back;unfold sawOne at this;rwa [HL0.out] at this
 have HBK:=Lib.hid hbk
 have HGO:=Lib.hid hpk.go
 have HMD:Hid ((netOuts N d.I n)[n]?=some (midOf N d.I)):=Lib.hid (by rw [netOuts_last];unfold midOf;rw [HL0.out])
 have HPT:=Lib.hid hpt
 have hnb:n≤12:=by
  have h1:=hpk.go
  unfold netGoFault at h1
  by_cases h12:12<N.length
  ·rw [if_pos h12] at h1;exact absurd h1 (by decide)
  ·have:=HL0.out;omega
 clear hpt hpk hbk hn
 go_enter Tryz.func19,Tryz.ntmps19
 go_wp2_with fail
 refine (refNetGo_any N F _ _ _ _ _ d.I _ _ (h0.alloc _) (MatAt.mk (y1.alloc _))).mono ?_
 rintro e w1 ⟨uG,rfl,hb1,huG,_⟩
 obtain ⟨aG,kG,bG,rfl,rG⟩:=huG HGO.out
 rw [HGO.out]
 have B3:=(Box.new w [.int .i64 d.I.rows,.int .i64 d.I.cols,.slice a4 n4 k4,.int .i64 d.W.rows,.int .i64 d.W.cols,.slice a5 n5 k5] 43).keep hb1
 have B3c:=B3.cell
 have B3f:=B3.thawed
 have B3z:=B3.lt
 have B3k:=lt_add B3z
 have hkw1:Below w.heap.size w w1:=(Below.x1 hb1)
 replace h0:=h0.keep hkw1
 replace y2:=y2.keep hkw1
 have hsw1:=hkw1.size
 clear huG y1
 obtain ⟨a6,n6,k6,b6,o6,hcm,xg⟩:=mats_cells (i:=n) rG (Nat.lt_succ_self _)
 have hmx:mx (netOuts N d.I n) n=midOf N d.I:=by unfold mx;rw [HMD.out];rfl
 rw [hmx] at hcm xg
 rw [Nat.zero_add] at hcm
 obtain rfl:=rG.ptr (Nat.succ_pos _)
 have m0:=hcm.c0
 have m1:=hcm.c1
 have m2:=hcm.c2
 have w0':=B3.cell 3
 have pI:(n:Int)<(n:Int)+1:=by omega
 have pI0:(0:Int)≤(n:Int):=by omega
 obtain ⟨mo,hmo⟩:∃ mo,partOff N d=mo:=⟨_,rfl⟩
 have HMO:Hid (lossOf (midOf N d.I) d.W=mo):=Lib.hid hmo
 have HMO2:=Lib.hid hmo
 clear hcm hmx hmo
 go_wp2_with fail
 refine (refLossOf_all (midOf N d.I) d.W _ _ _ (MatAt.mk (xg.alloc _)) (MatAt.mk (y2.alloc _)) HPK.out.loss).mono ?_
 rw [HMO.out]
 rintro e w2 ⟨vg,rfl,⟨ag,ng,kg,bg,og,rfl,_,xq⟩,hb2⟩
 have hkw2:Below w1.heap.size w1 w2:=(Below.x1 hb2)
 replace h0:=h0.keep hkw2
 replace rG:=rG.keep hkw2
 have hsw2:=hkw2.size
 obtain ⟨pb,hpb⟩:∃ pb,partBack N d=pb:=⟨_,rfl⟩
 have hpb':lossBack (midOf N d.I) d.W=pb:=hpb
 rw [hpb'] at xq ⊢
 rw [hpb] at HBK HPT
 clear hpb hpb' B3 B3c B3f B3z B3k xg y2 m0 m1 m2 w0'
 go_wp2_with fail
 refine (refNetBack_any N (netOuts N d.I n) pb F _ _ _ _ _ _ _ _ _ _ _ _ _ (h0.alloc _) (rG.alloc _) (MatAt.mk (xq.alloc _))).mono ?_
 rintro e w3 ⟨u14,v14,rfl,hb3,hu14,_⟩
 obtain ⟨⟨au,nu,ku,bu,ou,rfl,xu⟩,aD,kD,bD,rfl,rD⟩:=hu14 HBK.out
 rw [HBK.out]
 have hbe:Below w.heap.size w w3:=(by repeat (first|(with_reducible first|exact Below.refl _ _|refine Below.al ?_ _|refine Below.drN ?_ _|refine Below.drew ?_|refine Below.sx ?_ _|refine Below.go ?_ hb3|refine Below.go ?_ hb2|refine Below.go ?_ hb1)|exact Below.refl _ _))
 clear hu14 rG xq xu h0 hb1 hb2 hb3
 rw [← HPT.out] at rD
 go_wp2
 refine bodyPost_ret (v:=.tuple #[.slice aD n kD,.int .i64 mo]) (by simp [results,Tryz.results19,go_sem]) rfl ⟨aD,kD,bD,by rw [HMO2.out],(Below.y0 hbe),(rD.alloc _)⟩
end Go.Proofs.YtchngeagnlngaaaGreatDoor
end
section
set_option maxRecDepth 100000
namespace Gal
open Go Go.RowKit
theorem mat_nat {m:Mat} (h:m.fault=0):∃ R C:Nat,m.rows=(R:Int)∧m.cols=(C:Int)∧R≤24∧C≤24∧R*C=m.cells.length:=by
 obtain ⟨R,K,xs,rfl,hR,hK,hl,_⟩:=mat_form h
 exact ⟨R,K,rfl,rfl,hR,by omega,hl.symm⟩
end Gal
namespace Go.Proofs.YtchngeagnlngaaaGreatDoor
open Go.RowKit Gal
set_option maxHeartbeats 8000000
theorem refZeros_any (ls:List Lay) (F:Nat→Prop) (a:Option Addr) (n k b o:Nat) (w:World) (h:RowAt Form.lay w F a n k b o ls) (hf:∀ i,i<n→(lx ls i).fault=0) (hn:n≤12) :
    Calls Tryz.prog 18 #[.slice a n k] w fun e w'=>∃ a' k' b',e=.returned (.slice a' n k')∧Below w.heap.size w w'∧RowAt Form.grd w' anyB a' n k' b' 0 (zeroNet ls):=by
  obtain ⟨i0,hi,hz0,hz1,hz2⟩:=info_parts info_grad
  have hl:=h.len
  have HFF:=Lib.hid hf
  have HTT:Hid (∀ t,t<n→(zeroNet ls).take (t+1)=(zeroNet ls).take t++[zeroGrd (lx ls t)]):=Lib.hid fun t ht=>by
    rw [List.take_add_one]
    congr 1
    rw [gx_get (by rw [zeroNet_length,hl];exact ht),zeroNet_gx]
    rfl
  have HLEN:Hid (∀ t,t≤n→((zeroNet ls).take t).length=t):=Lib.hid fun t ht=>by rw [List.length_take,zeroNet_length,hl];omega
  have HALL:Hid ((zeroNet ls).take n=zeroNet ls):=Lib.hid (by rw [← hl,← zeroNet_length];exact List.take_length)
  clear hf hl
  go_enter Tryz.func18,Tryz.ntmps18
  go_wp2_with fail
  go_loopw [3,4] (fun u j wr=>∃ (t:Nat) (v:Value),v=u∧t≤n∧j=.int .i64 t∧OwnRow Form.grd 86 wr w.heap.size (newB w.heap.size) v ((zeroNet ls).take t)∧Below w.heap.size w wr) (fun _ j _=>n - (intOf j).toNat)
  case atStart=>exact ⟨0,_,rfl,Nat.zero_le _,rfl,OwnRow.nil _ _ _ _ _,Below.refl _ _⟩
  case round=>
    obtain ⟨t,v,rfl,ht,rfl,hown,hbr⟩:=hrel
    by_cases hlt:t<n
    · have hltI:(t:Int)<(n:Int):=by omega
      have hlt0:(0:Int)≤(t:Int):=by omega
      obtain rfl:=h.ptr (by omega)
      obtain ⟨a4,n4,k4,b4,o4,a5,n5,k5,b5,o5,c0,c1,c2,c3,c4,c5,c6,x4,x5⟩:=lay_cells (h.keep hbr) hlt
      obtain ⟨_,_,e3,e4,_⟩:=Lay.fault_ok (HFF.out t hlt)
      obtain ⟨R,C,hRr,hCr,hR,hC,hRC⟩:=mat_nat e3
      obtain ⟨Q,D,hQr,hDr,hQ,hD,hQD⟩:=mat_nat e4
      have HZG:Hid (zeroGrd (lx ls t)=⟨⟨R,C,zeros (R*C)⟩,⟨Q,D,zeros (Q*D)⟩⟩):=Lib.hid (by unfold zeroGrd zeroMat;rw [hRr,hCr,hQr,hDr,hRC,hQD])
      rw [hRr] at c1
      rw [hCr] at c2
      rw [hQr] at c4
      rw [hDr] at c5
      have HTK:=Lib.hid (HTT.out t hlt)
      have HLL:=Lib.hid (HLEN.out t ht)
      obtain ⟨wq,rfl⟩:∃ wq,wq=wr:=⟨_,rfl⟩
      clear c0 c3 c6 x4 x5 e3 e4 hRr hCr hQr hDr hRC hQD
      have zb:=World.block_lt_of_cell? _ _ c1
      go_wp2_with fail
      go_cut [5] (fun s wx=>∃ M g,s=.pointer (some ⟨M,0,none⟩)∧wq.heap.size≤M∧Box wx M [.int .i64 ((R:Nat):Int),.int .i64 ((C:Nat):Int),.slice (some ⟨g,0,none⟩) (R*C) (R*C)] 41∧wq.heap.size≤g∧Box wx g ((zeros (R*C)).map (Value.int .i64)) 3∧Below wq.heap.size wq wx)
      case first=>
        go_region_held3 (fun w'=>w'.cell? ⟨b,o+t*7+1,none⟩=some (.int .i64 ((R:Nat):Int))∧w'.cell? ⟨b,o+t*7+2,none⟩=some (.int .i64 ((C:Nat):Int))) (first|(have hb5x:=hb5;exact ⟨cell_keep' ((Below.x1 hb5):Below wq.heap.size wq _) c1,cell_keep' ((Below.x1 hb5):Below wq.heap.size wq _) c2⟩)|exact ⟨cell_keep' (Below.x0:Below wq.heap.size wq _) c1,cell_keep' (Below.x0:Below wq.heap.size wq _) c2⟩)
          ((go_at_call 43;go_must (refine (blank_any R C hR hC _).mono ?_);go_must (rintro e w5 ⟨g,rfl,hg,hz5,hb5⟩);(try (have hb5a:Below (wq.drew.alloc (Obj.cells #[.int .i64 0,.int .i64 0,.slice none 0 0] 41)).heap.size (wq.drew.alloc (Obj.cells #[.int .i64 0,.int .i64 0,.slice none 0 0] 41)) w5:=hb5;have P13:Box w5 wq.heap.size [.int .i64 0,.int .i64 0,.slice none 0 0] 41:=Box.keep (Box.new' wq.drew wq.heap.size [.int .i64 0,.int .i64 0,.slice none 0 0] 41 rfl) hb5a;have P13c:=P13.cell;have P13f:=P13.thawed;have P13z:=P13.lt))))
        all_goals (
          have hgz:wq.heap.size≤g:=by simp at hg;omega
          have hz5l:=hz5.lt
          have hw5:wq.heap.size≤w5.heap.size:=((Below.x1 hb5):Below wq.heap.size wq w5).size
          go_wp2_with fail
          go_meet
          first
          | exact ⟨wq.heap.size,g,rfl,Nat.le_refl _,((P13.set 0 _).set 1 _).set 2 _,hgz,(((hz5.far (by dsimp only;simp at hg;omega) _).far (by dsimp only;simp at hg;omega) _).far (by dsimp only;simp at hg;omega) _),((((Below.x1 hb5):Below wq.heap.size wq w5).setCell (Nat.le_refl _) _).setCell (Nat.le_refl _) _).setCell (Nat.le_refl _) _⟩
          | exact ⟨w5.heap.size,g,rfl,hw5,Box.x0,hgz,hz5.alloc _,(Below.x1 hb5)⟩)
      case rest=>
      obtain ⟨M1,g1,rfl,hM1,X1,hg1,Z1,hbc1⟩:=hcut
      have HOV:=Lib.hid hown.base_le
      have hown1:=hown.keep hbc1
      have d4:=cell_keep' hbc1 c4
      have d5:=cell_keep' hbc1 c5
      have hzq:=hbc1.size
      obtain ⟨wo,rfl⟩:∃ wo,wo=wq:=⟨_,rfl⟩
      obtain ⟨wq,rfl⟩:∃ wq,wq=wc:=⟨_,rfl⟩
      clear hown c1 c2 c4 c5 zb
      go_wp2_with fail
      go_cut [6] (fun s wx=>∃ M g,s=.pointer (some ⟨M,0,none⟩)∧wq.heap.size≤M∧Box wx M [.int .i64 ((Q:Nat):Int),.int .i64 ((D:Nat):Int),.slice (some ⟨g,0,none⟩) (Q*D) (Q*D)] 41∧wq.heap.size≤g∧Box wx g ((zeros (Q*D)).map (Value.int .i64)) 3∧Below wq.heap.size wq wx)
      case first=>
        go_region_held3 (fun w'=>w'.cell? ⟨b,o+t*7+4,none⟩=some (.int .i64 ((Q:Nat):Int))∧w'.cell? ⟨b,o+t*7+5,none⟩=some (.int .i64 ((D:Nat):Int))) (first|(have hb5x:=hb5;exact ⟨cell_keep' ((Below.x1 hb5):Below wq.heap.size wq _) d4,cell_keep' ((Below.x1 hb5):Below wq.heap.size wq _) d5⟩)|exact ⟨cell_keep' (Below.x0:Below wq.heap.size wq _) d4,cell_keep' (Below.x0:Below wq.heap.size wq _) d5⟩)
          ((go_at_call 43;go_must (refine (blank_any Q D hQ hD _).mono ?_);go_must (rintro e w5 ⟨g,rfl,hg,hz5,hb5⟩);(try (have hb5a:Below (wq.drew.alloc (Obj.cells #[.int .i64 0,.int .i64 0,.slice none 0 0] 41)).heap.size (wq.drew.alloc (Obj.cells #[.int .i64 0,.int .i64 0,.slice none 0 0] 41)) w5:=hb5;have P13:Box w5 wq.heap.size [.int .i64 0,.int .i64 0,.slice none 0 0] 41:=Box.keep (Box.new' wq.drew wq.heap.size [.int .i64 0,.int .i64 0,.slice none 0 0] 41 rfl) hb5a;have P13c:=P13.cell;have P13f:=P13.thawed;have P13z:=P13.lt))))
        all_goals (
          have hgz:wq.heap.size≤g:=by simp at hg;omega
          have hz5l:=hz5.lt
          have hw5:wq.heap.size≤w5.heap.size:=((Below.x1 hb5):Below wq.heap.size wq w5).size
          go_wp2_with fail
          go_meet
          first
          | exact ⟨wq.heap.size,g,rfl,Nat.le_refl _,((P13.set 0 _).set 1 _).set 2 _,hgz,(((hz5.far (by dsimp only;simp at hg;omega) _).far (by dsimp only;simp at hg;omega) _).far (by dsimp only;simp at hg;omega) _),((((Below.x1 hb5):Below wq.heap.size wq w5).setCell (Nat.le_refl _) _).setCell (Nat.le_refl _) _).setCell (Nat.le_refl _) _⟩
          | exact ⟨w5.heap.size,g,rfl,hw5,Box.x0,hgz,hz5.alloc _,(Below.x1 hb5)⟩)
      case rest=>
      obtain ⟨M2,g2,rfl,hM2,X2,hg2,Z2,hbc2⟩:=hcut
      have hown2:=hown1.keep hbc2
      have X1':=X1.keep hbc2
      have Z1':=Z1.keep hbc2
      have hzc:=hbc2.size
      have hRCm:R*C≤maxLen:=by have:R*C≤24*24:=Nat.mul_le_mul hR hC;unfold maxLen;omega
      have hQDm:Q*D≤maxLen:=by have:Q*D≤24*24:=Nat.mul_le_mul hQ hD;unfold maxLen;omega
      have i1:=zeros_box Z1' hRCm
      have i2:=zeros_box Z2 hQDm
      have k0:=X1'.cell 0
      have k1:=X1'.cell 1
      have k2:=X1'.cell 2
      have m0:=X2.cell 0
      have m1:=X2.cell 1
      have m2:=X2.cell 2
      have hbw:Below w.heap.size w wc:=(by repeat (first|(with_reducible first|exact Below.refl _ _|exact hbr|refine Below.al ?_ _|refine Below.drN ?_ _|refine Below.drew ?_|refine Below.sx ?_ _|refine Below.go ?_ hbc2|refine Below.go ?_ hbc1)|exact Below.refl _ _|exact hbr))
      have hwz:=hbr.size
      have q1:0<R*C→newB w.heap.size g1∧v.ownBlock≠some g1:=fun _=>⟨by unfold newB;omega,fun e=>by have:=(HOV.out g1 e).2;omega⟩
      have q2:0<Q*D→newB w.heap.size g2∧v.ownBlock≠some g2:=fun _=>⟨by unfold newB;omega,fun e=>by have:=(HOV.out g2 e).2;omega⟩
      have HLM:Hid ((((zeroNet ls).take t).length+1)*80≤140737488355328∧((zeroNet ls).take t).length+1≤maxLen):=Lib.hid (by rw [HLL.out];unfold maxLen;omega)
      clear hown1 X1 Z1 X1' Z1' X2 Z2 hbc1 hbc2 hRCm hQDm d4 d5
      go_wp2_with (at_builtin;refine wpList_push rfl (.tmp 39) (.tmp 43) 23 rfl Form.grd w.heap.size (newB w.heap.size) 86 i0 (.agg #[.int .i64 0,.int .i64 0,.slice none 0 0,.int .i64 0,.int .i64 0,.slice none 0 0]) 80 Tryz.underlying23 hi hz0 hz1 hz2 rfl (by decide) v ((zeroNet ls).take t) rfl ?c1 wc.heap.size 1 [.int .i64 (R:Int),.int .i64 (C:Int),.slice (some ⟨g1,0,none⟩) (R*C) (R*C),.int .i64 (Q:Int),.int .i64 (D:Int),.slice (some ⟨g2,0,none⟩) (Q*D) (Q*D)] 86 ⟨⟨R,C,zeros (R*C)⟩,⟨Q,D,zeros (Q*D)⟩⟩ rfl ?c2 ?c3 ?c4 ?c5 ?c6 _ rfl ?_)
      case c1=>exact OwnRow.keep hown2 Below.x0
      case c2=>exact Box.x0
      case c3=>exact reads_grd (d:=⟨⟨R,C,zeros (R*C)⟩,⟨Q,D,zeros (Q*D)⟩⟩) (F:=fun b=>newB w.heap.size b∧v.ownBlock≠some b) (b:=g1) (b':=g2) (o:=0) (o':=0) q1 i1.k q2 i2.k
      case c4=>exact HLM.out.1
      case c5=>exact HLM.out.2
      case c6=>simp;omega
      intro gN capN wN hownN hgrow hlies hltN
      have hbN:Below w.heap.size w wN:=Below.grown (show Below w.heap.size w _ from (Below.y0 hbw)) hgrow (by have:=hbw.size;simp;omega) (fun q hq=>(HOV.out q hq).1)
      have HALL:=Lib.hid (And.intro hownN hbN)
      clear hownN hbN hgrow hlies hltN hown2 hbw hbr k0 k1 k2 m0 m1 m2 i1 i2 q1 q2
      go_wp2
      go_roundw
      case rel=>exact ⟨t+1,_,rfl,by omega,by go_num,by rw [HTK.out,HZG.out];exact HALL.out.1,HALL.out.2⟩
      case measure=>simp [intOf];omega
    · obtain rfl:t=n:=by omega
      obtain ⟨av,cv,bv,hv,_,hrow⟩:=hown.row (G:=anyB) (fun _ _ _=>trivial) (fun _ _=>trivial)
      rw [HLEN.out t (Nat.le_refl _)] at hv hrow
      rw [HALL.out] at hrow
      subst hv
      go_wp2
      go_ret
      exact ⟨av,cv,bv,rfl,hbr,hrow⟩
end Go.Proofs.YtchngeagnlngaaaGreatDoor
end
section
set_option maxRecDepth 100000
namespace Go.Proofs.YtchngeagnlngaaaGreatDoor
open Go.RowKit Gal
set_option maxHeartbeats 8000000
def RefOneEnd (w:World) (s:Sta) (d:Bat) (p ln kp:Int) (e:Ending) (w':World):Prop:=
 ∃ v off,e=.returned (.tuple #[v,.int .i64 off,.int .i64 (oneFault s d p ln kp)])∧Below w.heap.size w w' ∧
  (oneFault s d p ln kp=0→off=oneOff s d p∧StaNew w.heap.size w' v (oneOf s d p ln kp))∧(oneFault s d p ln kp≠0→off=0∧v=.agg #[.slice none 0 0,.slice none 0 0,.int .i64 0])
section
variable (s:Sta) (d:Bat) (p ln kp:Int) (F G:Nat→Prop) (a0 a1:Option Addr) (n n1 k0 k1 b0 b1 o0 o1:Nat) (vb:Value) (w:World) (h0:RowAt Form.lay w F a0 n k0 b0 o0 s.N) (h1:RowAt Form.grd w G a1 n1 k1 b1 o1 s.V) (hd:BatAt w vb d)
include h0 h1 hd
theorem refOneOf_bad (hf:oneFault s d p ln kp≠0) :
  Calls Tryz.prog 7 #[.agg #[.slice a0 n k0,.slice a1 n1 k1,.int .i64 s.steps],vb,.int .i64 p,.agg #[.int .i64 ln,.int .i64 kp]] w (RefOneEnd w s d p ln kp)
 := by
 obtain ⟨a2,n2,k2,b2,o2,a3,n3,k3,b3,o3,rfl,x0,x1⟩:=hd
 have HF:=Lib.hid hf
 have e9:(oneFault s d p ln kp != 0)=true:=by rw [bne_iff_ne];exact hf
 clear hf
 go_enter Tryz.func7,Tryz.ntmps7
 go_wp2_with fail
 refine (refOneFault_any s d p ln kp F G _ _ _ _ _ _ _ _ _ _ _ _ (h0.alloc _ |>.alloc _ |>.alloc _ |>.alloc _) (h1.alloc _ |>.alloc _ |>.alloc _ |>.alloc _) ⟨a2,n2,k2,b2,o2,a3,n3,k3,b3,o3,rfl,(x0.alloc _ |>.alloc _ |>.alloc _ |>.alloc _),(x1.alloc _ |>.alloc _ |>.alloc _ |>.alloc _)⟩).mono ?_
 rintro e w1 ⟨uP,rfl,hb1,_,huP⟩
 obtain rfl:=huP HF.out
 have B4:=((show Box _ w.heap.size [.slice a0 n k0,.slice a1 n1 k1,.int .i64 s.steps] 25 from Box.x0)).keep hb1
 have B4c:=B4.cell
 have B4f:=B4.thawed
 have B4z:=B4.lt
 have B4k:=lt_add B4z
 have B7:=((show Box _ (w.heap.size+1+1) [.int .i64 ln,.int .i64 kp] 28 from Box.x0)).keep hb1
 have B7c:=B7.cell
 have B7f:=B7.thawed
 have B7z:=B7.lt
 have B7k:=lt_add B7z
 have B8:=((show Box _ (w.heap.size+1+1+1) [.slice none 0 0,.slice none 0 0,.int .i64 0] 25 from Box.x0)).keep hb1
 have B8c:=B8.cell
 have B8f:=B8.thawed
 have B8z:=B8.lt
 have B8k:=lt_add B8z
 have bz:=(((B8.set 0 (.slice none 0 0)).set 1 (.slice none 0 0)).set 2 (.int .i64 0))
 have z0:=bz.cell 0
 have z1:=bz.cell 1
 have z2:=bz.cell 2
 have hbw:Below w.heap.size w w1:=(Below.x1 hb1)
 have hbe:Below w.heap.size w (((w1.setCell ⟨w.heap.size+1+1+1,0,none⟩ (.slice none 0 0)).setCell ⟨w.heap.size+1+1+1,1,none⟩ (.slice none 0 0)).setCell ⟨w.heap.size+1+1+1,2,none⟩ (.int .i64 0)):=((hbw.setCell (by dsimp only;omega) _).setCell (by dsimp only;omega) _).setCell (by dsimp only;omega) _
 have HBE:=Lib.hid hbe
 clear huP h0 h1 x0 x1 bz hbe hb1 hbw
 go_wp2
 refine bodyPost_ret (v:=.tuple #[.agg #[.slice none 0 0,.slice none 0 0,.int .i64 0],.int .i64 0,.int .i64 (oneFault s d p ln kp)]) (by simp [results,Tryz.results7,go_sem,z0,z1,z2]) rfl ⟨_,_,rfl,HBE.out,fun h=>absurd h HF.out,fun _=>⟨rfl,rfl⟩⟩
theorem refOneOf_ok (hf:oneFault s d p ln kp=0) :
  Calls Tryz.prog 7 #[.agg #[.slice a0 n k0,.slice a1 n1 k1,.int .i64 s.steps],vb,.int .i64 p,.agg #[.int .i64 ln,.int .i64 kp]] w (RefOneEnd w s d p ln kp)
 := by
 obtain ⟨a2,n2,k2,b2,o2,a3,n3,k3,b3,o3,rfl,x0,x1⟩:=hd
 have HF:=Lib.hid hf
 obtain ⟨f1,f2,_⟩:=oneFault_ok hf
 obtain ⟨hn12,hst0,hst1,hlf,hvl,hvf⟩:=Sta.fault_ok f1
 have hl0:=h0.len
 have hl1:=h1.len
 obtain rfl:n1=n:=by omega
 have HPT:=Lib.hid (one_parts hf)
 have HBY:Hid (∀ k,k<p.toNat→gatherFault (byTo s.N d (sizesIn d p) k) (partTurn s.N (partOf d (sizesIn d p) k))=0):=Lib.hid (fun k hk=>byTo_gather hf hk)
 have HBL:Hid (∀ k,k≤p.toNat→(byTo s.N d (sizesIn d p) k).length=n1):=Lib.hid (fun k hk=>by rw [(byTo_fits hf k hk).1,hl0])
 have HST:=Lib.hid (one_step hf)
 have HL0:=Lib.hid hl0
 have HSS:=Lib.hid (And.intro hst0 hst1)
 have HZM:Hid (∀ i,i<n1→(lx s.N i).W.cells.length*8≤140737488355328∧(lx s.N i).B.cells.length*8≤140737488355328):=Lib.hid (fun i hi=>by
  obtain ⟨_,_,e3,e4,_⟩:=Lay.fault_ok (hlf i (by omega))
  exact ⟨fault_small e3,fault_small e4⟩)
 have hn:n1≤12:=by omega
 have HLF:Hid (∀ i,i<n1→(lx s.N i).fault=0):=Lib.hid (fun i hi=>hlf i (by omega))
 obtain ⟨S,hS⟩:∃ S,sizesIn d p=S:=⟨_,rfl⟩
 obtain ⟨P,hP⟩:∃ P,p.toNat=P:=⟨_,rfl⟩
 have HOF:Hid (oneOff s d p=offTo s.N d S P):=Lib.hid (by unfold oneOff;rw [hS,hP])
 have HON:Hid (oneOf s d p ln kp=⟨stepLays s.N s.V (byTo s.N d S P) ln kp s.N.length,stepGrds s.N s.V (byTo s.N d S P) kp s.N.length,s.steps+1⟩):=Lib.hid (by unfold oneOf;rw [hS,hP])
 rw [hS,hP] at HPT HBY HBL HST
 have HSP:=Lib.hid (And.intro hS hP)
 have hPb:P≤12:=by have:=(splitFault_ok f2).2.2.1;omega
 clear hf f1 f2 hlf hvl hvf hn12 hl0 hl1 hst0 hst1 hS hP
 go_enter Tryz.func7,Tryz.ntmps7
 go_wp2_with fail
 refine (refOneFault_any s d p ln kp F G _ _ _ _ _ _ _ _ _ _ _ _ (h0.alloc _ |>.alloc _ |>.alloc _ |>.alloc _) (h1.alloc _ |>.alloc _ |>.alloc _ |>.alloc _) ⟨a2,n2,k2,b2,o2,a3,n3,k3,b3,o3,rfl,(x0.alloc _ |>.alloc _ |>.alloc _ |>.alloc _),(x1.alloc _ |>.alloc _ |>.alloc _ |>.alloc _)⟩).mono ?_
 rintro e w1 ⟨uP,rfl,hb1,huP,_⟩
 obtain ⟨aL,kL,bL,rfl,rL⟩:=huP HF.out
 rw [HSP.out.1,HSP.out.2] at rL
 rw [HF.out,HSP.out.2]
 have B4:=((show Box _ w.heap.size [.slice a0 n1 k0,.slice a1 n1 k1,.int .i64 s.steps] 25 from Box.x0)).keep hb1
 have B4c:=B4.cell
 have B4f:=B4.thawed
 have B4z:=B4.lt
 have B4k:=lt_add B4z
 have B7:=((show Box _ (w.heap.size+1+1) [.int .i64 ln,.int .i64 kp] 28 from Box.x0)).keep hb1
 have B7c:=B7.cell
 have B7f:=B7.thawed
 have B7z:=B7.lt
 have B7k:=lt_add B7z
 have B8:=((show Box _ (w.heap.size+1+1+1) [.slice none 0 0,.slice none 0 0,.int .i64 0] 25 from Box.x0)).keep hb1
 have B8c:=B8.cell
 have B8f:=B8.thawed
 have B8z:=B8.lt
 have B8k:=lt_add B8z
 have hkw1:Below w.heap.size w w1:=(Below.x1 hb1)
 replace h0:=h0.keep hkw1
 replace h1:=h1.keep hkw1
 have hsw1:=hkw1.size
 clear huP x0 x1
 have e0:((0:Int) != 0)=false:=by simp
 go_wp2_with fail
 refine (refZeros_any s.N F _ _ _ _ _ _ h0 HLF.out hn).mono ?_
 rintro e w2 ⟨aZ,kZ,bZ,rfl,hb2,rZ⟩
 have hkw2:Below w1.heap.size w1 w2:=(Below.x1 hb2)
 replace B4:=B4.keep hkw2
 replace B4c:=B4.cell
 replace B4f:=B4.thawed
 replace B4z:=B4.lt
 replace B4k:=lt_add B4z
 replace B7:=B7.keep hkw2
 replace B7c:=B7.cell
 replace B7f:=B7.thawed
 replace B7z:=B7.lt
 replace B7k:=lt_add B7z
 replace B8:=B8.keep hkw2
 replace B8c:=B8.cell
 replace B8f:=B8.thawed
 replace B8z:=B8.lt
 replace B8k:=lt_add B8z
 replace h0:=h0.keep hkw2
 replace h1:=h1.keep hkw2
 replace rL:=rL.keep hkw2
 have hsw2:=hkw2.size
 have hbw2:Below w.heap.size w w2:=(Below.x2 hb2 hb1)
 have rZ9:RowAt Form.grd w2 anyB aZ n1 kZ bZ 0 (byTo s.N d S 0):=rZ
 have hwz:=hbw2.size
 clear rZ hb1 hb2
 have c40:=B4.cell 0
 go_wp2
 go_loopw [13,14,15] (fun u x i wr=>∃ (t:Nat) (aB:Option Addr) (kB bB:Nat),t≤P∧u=.slice aB n1 kB∧x=.int .i64 (offTo s.N d S t)∧i=.int .i64 t∧RowAt Form.grd wr anyB aB n1 kB bB 0 (byTo s.N d S t)∧Below w2.heap.size w2 wr) (fun _ _ i _=>P - (intOf i).toNat)
 case atStart=>exact ⟨0,aZ,kZ,bZ,Nat.zero_le _,rfl,rfl,rfl,rZ9,Below.refl _ _⟩
 case round=>
  clear rZ9 c40
  obtain ⟨t,aB,kB,bB,ht,rfl,rfl,rfl,rB,hk⟩:=hrel
  have hbr:Below w.heap.size w wr:=hbw2.trans (hk.mono hwz)
  replace B4:=B4.keep hk
  replace B7:=B7.keep hk
  replace B8:=B8.keep hk
  replace h0:=h0.keep hk
  replace h1:=h1.keep hk
  replace rL:=rL.keep hk
  have B4c:=B4.cell
  have B4z:=B4.lt
  clear B7c B7f B7z B7k B8c B8f B8z B8k B4f B4k
  by_cases hlt:t<P
  ·have hltI:(t:Int)<(P:Int):=by omega
   have ht0:(0:Int)≤(t:Int):=by omega
   obtain ⟨a4,n4,k4,b4,o4,a5,n5,k5,b5,o5,d0,d1,d2,d3,d4,d5,y1,y2⟩:=bat_cells (i:=t) (d:=partOf d S t) rL (by
    unfold partsTo
    rw [List.getElem?_map,List.getElem?_range hlt]
    rfl)
   simp only [Nat.zero_add] at d0 d1 d2 d3 d4 d5
   have hpk:=HPT.out t hlt
   have hby:=HBY.out t hlt
   have HBN:Hid (byTo s.N d S (t+1)=gatherTo (byTo s.N d S t) (partTurn s.N (partOf d S t)) n1):=Lib.hid (by
    show gatherTo (byTo s.N d S t) (partTurn s.N (partOf d S t)) (byTo s.N d S t).length=_
    rw [HBL.out t ht])
   have HON1:Hid (offTo s.N d S (t+1)=add (offTo s.N d S t) (partOff s.N (partOf d S t))):=Lib.hid rfl
   obtain ⟨dt,hdt⟩:∃ dt,partOf d S t=dt:=⟨_,rfl⟩
   rw [hdt] at d0 d1 d3 d4 y1 y2 hpk hby HBN HON1
   have HPK:=Lib.hid hpk
   have HBY1:=Lib.hid hby
   obtain rfl:=rL.ptr (by omega)
   clear hdt hpk hby rL
   obtain ⟨mo,hmo⟩:∃ mo,partOff s.N dt=mo:=⟨_,rfl⟩
   have HMO:=Lib.hid hmo
   rw [hmo] at HON1
   have c40:wr.cell? ⟨w.heap.size,0,none⟩=some (.slice a0 n1 k0):=B4c 0
   have H0:=Lib.hid h0
   have Y:=Lib.hid (And.intro y1 y2)
   clear hmo y1 y2
   go_wp2_with fail
   go_cut [16,17] (fun u5 u6 wx=>∃ aD kD bD,u5=.slice aD n1 kD∧u6=.int .i64 mo∧Below wr.heap.size wr wx∧RowAt Form.grd wx anyB aD n1 kD bD 0 (partTurn s.N dt))
   case first=>
    go_region_held3 (fun w'=>w'.cell? ⟨w.heap.size,0,none⟩=some (.slice a0 n1 k0)∧w'.cell? ⟨bL,t*6,none⟩=some (.int .i64 dt.I.rows)∧w'.cell? ⟨bL,t*6+1,none⟩=some (.int .i64 dt.I.cols)∧w'.cell? ⟨bL,t*6+2,none⟩=some (.slice a4 n4 k4)∧w'.cell? ⟨bL,t*6+3,none⟩=some (.int .i64 dt.W.rows)∧w'.cell? ⟨bL,t*6+4,none⟩=some (.int .i64 dt.W.cols)∧w'.cell? ⟨bL,t*6+5,none⟩=some (.slice a5 n5 k5)) (first|(have hb5x:=hb5;exact ⟨cell_keep' ((Below.x1 hb5):Below wr.heap.size wr _) c40,cell_keep' ((Below.x1 hb5):Below wr.heap.size wr _) d0,cell_keep' ((Below.x1 hb5):Below wr.heap.size wr _) d1,cell_keep' ((Below.x1 hb5):Below wr.heap.size wr _) d2,cell_keep' ((Below.x1 hb5):Below wr.heap.size wr _) d3,cell_keep' ((Below.x1 hb5):Below wr.heap.size wr _) d4,cell_keep' ((Below.x1 hb5):Below wr.heap.size wr _) d5⟩)|exact ⟨cell_keep' (Below.x0:Below wr.heap.size wr _) c40,cell_keep' (Below.x0:Below wr.heap.size wr _) d0,cell_keep' (Below.x0:Below wr.heap.size wr _) d1,cell_keep' (Below.x0:Below wr.heap.size wr _) d2,cell_keep' (Below.x0:Below wr.heap.size wr _) d3,cell_keep' (Below.x0:Below wr.heap.size wr _) d4,cell_keep' (Below.x0:Below wr.heap.size wr _) d5⟩)
     ((go_at_call 19;have hbq:Below wr.heap.size wr wr.drew:=Below.x0;go_must (refine (refPartOf_any s.N dt F a0 n1 k0 b0 o0 _ _ (H0.out.keep hbq) ⟨a4,n4,k4,b4,o4,a5,n5,k5,b5,o5,rfl,Y.out.1.keep hbq,Y.out.2.keep hbq⟩ HPK.out).mono ?_);go_must (rintro e w5 ⟨aD,kD,bD,rfl,hb5,rD⟩)))
    all_goals (
     go_wp2_with fail
     go_meet
     exact ⟨aD,kD,bD,rfl,by rw [HMO.out],(Below.x1 hb5),rD⟩)
   case rest=>
   obtain ⟨aD,kD,bD,rfl,rfl,hbc,rD⟩:=hcut
   have rB1:=rB.keep hbc
   clear rB d0 d1 d2 d3 d4 d5 c40
   go_wp2_with fail
   refine (refGather_any (byTo s.N d S t) (partTurn s.N dt) _ _ _ _ _ _ _ _ _ _ _ _ wc rB1 rD (by omega)).mono ?_
   rintro e w6 ⟨uH,rfl,hb6,huH,_⟩
   obtain ⟨aH,kH,bH,rfl,rH⟩:=huH HBY1.out
   rw [← HBN.out] at rH
   rw [HBY1.out]
   have hbe:Below w2.heap.size w2 w6:=hk.trans ((hbc.trans (hb6.mono hbc.size)).mono hk.size)
   have rH9:RowAt Form.grd w6 anyB aH n1 kH bH 0 (byTo s.N d S (t+1)):=rH.wide (fun _ _ _=>trivial)
   clear huH rH hbc hb6 rB1 rD B4 B4c B4z B7 B8 h0 h1
   go_wp2_with fail
   refine (radd_any _ _ _).mono ?_
   rintro e w16 ⟨rfl,rfl⟩
   rw [← HON1.out]
   go_wp2
   go_roundw
   case rel=>exact ⟨t+1,aH,kH,bH,by omega,rfl,rfl,by go_num,rH9,hbe⟩
   case measure=>simp [intOf];omega
  ·obtain rfl:t=P:=by omega
   have c40:=B4.cell 0
   have c41:=B4.cell 1
   have c42:=B4.cell 2
   have c70:=B7.cell 0
   have c71:=B7.cell 1
   clear rL
   have hs9:=HSS.out
   have hsw:wrap64 (s.steps+1)=s.steps+1:=by unfold wrap64;omega
   have HSW:=Lib.hid hsw
   clear hsw hs9
   have hz:w.heap.size+4≤wr.heap.size:=by have:=B8.lt;omega
   go_wp2_with fail
   refine (refStepOf_any s.N s.V (byTo s.N d S t) ln kp F G anyB _ _ _ _ _ _ _ _ _ _ _ _ _ _ _ _ h0 h1 rB HST.out).mono ?_
   rintro e w21 ⟨a9,k9,b9,a8,k8,b8,rfl,hb21,q0,q1⟩
   have hkw21:Below wr.heap.size wr w21:=(Below.x1 hb21)
   replace B8:=B8.keep hkw21
   replace B8c:=B8.cell
   replace B8f:=B8.thawed
   replace B8z:=B8.lt
   replace B8k:=lt_add B8z
   replace B4:=B4.keep hkw21
   replace B4c:=B4.cell
   replace B4f:=B4.thawed
   replace B4z:=B4.lt
   replace B4k:=lt_add B4z
   have hsw21:=hkw21.size
   have hsw:=HSW.out
   have c42:=B4.cell 2
   have hbw:Below w.heap.size w w21:=(Below.y1 hb21 hbr)
   have d0:=B8.cell 0
   have d1:=B8.cell 1
   have d2:=B8.cell 2
   have bz:=((B8.set 0 (.slice a9 n1 k9)).set 1 (.slice a8 n1 k8)).set 2 (.int .i64 (s.steps+1))
   have z0:=bz.cell 0
   have z1:=bz.cell 1
   have z2:=bz.cell 2
   have hbe:Below w.heap.size w (((w21.setCell ⟨w.heap.size+1+1+1,0,none⟩ (.slice a9 n1 k9)).setCell ⟨w.heap.size+1+1+1,1,none⟩ (.slice a8 n1 k8)).setCell ⟨w.heap.size+1+1+1,2,none⟩ (.int .i64 (s.steps+1))):=((hbw.setCell (by dsimp only;omega) _).setCell (by dsimp only;omega) _).setCell (by dsimp only;omega) _
   have hf9:Far (fun c=>c=w.heap.size+1+1+1) w21 (((w21.setCell ⟨w.heap.size+1+1+1,0,none⟩ (.slice a9 n1 k9)).setCell ⟨w.heap.size+1+1+1,1,none⟩ (.slice a8 n1 k8)).setCell ⟨w.heap.size+1+1+1,2,none⟩ (.int .i64 (s.steps+1))):=(((Far.refl (fun c=>c=w.heap.size+1+1+1) w21).st (fun _=>rfl) _).st (fun _=>rfl) _).st (fun _=>rfl) _
   have t0:=q0.farS hf9 (fun c hc _ hh=>by have h3:wr.heap.size≤c:=hc;have h4:c=w.heap.size+1+1+1:=hh;omega)
   have t1:=q1.farS hf9 (fun c hc _ hh=>by have h3:wr.heap.size≤c:=hc;have h4:c=w.heap.size+1+1+1:=hh;omega)
   have HP:=Lib.hid (And.intro hbe (And.intro (t0.wide (G:=newB w.heap.size) (fun c hc _=>Nat.le_trans (by omega) hc)) (t1.wide (G:=newB w.heap.size) (fun c hc _=>Nat.le_trans (by omega) hc))))
   clear hbe hf9 t0 t1 q0 q1 bz hbw h0 h1 rB B4 B4c B4z B7
   go_wp2
   refine bodyPost_ret (v:=.tuple #[.agg #[.slice a9 n1 k9,.slice a8 n1 k8,.int .i64 (s.steps+1)],.int .i64 (offTo s.N d S t),.int .i64 0]) (by simp [results,Tryz.results7,go_sem,z0,z1,z2]) rfl ⟨_,_,by rw [HF.out],HP.out.1,fun _=>⟨HOF.out.symm,?_⟩,fun h=>absurd HF.out h⟩
   rw [HON.out]
   have hLN:s.N.length=n1:=HL0.out
   rw [hLN]
   exact ⟨a9,n1,k9,b9,a8,n1,k8,b8,rfl,HP.out.2.1,HP.out.2.2⟩
theorem refOneOf_any :
  Calls Tryz.prog 7 #[.agg #[.slice a0 n k0,.slice a1 n1 k1,.int .i64 s.steps],vb,.int .i64 p,.agg #[.int .i64 ln,.int .i64 kp]] w (RefOneEnd w s d p ln kp)
 := by
 by_cases hf:oneFault s d p ln kp=0
 ·exact refOneOf_ok s d p ln kp F G a0 a1 n n1 k0 k1 b0 b1 o0 o1 vb w h0 h1 hd hf
 ·exact refOneOf_bad s d p ln kp F G a0 a1 n n1 k0 k1 b0 b1 o0 o1 vb w h0 h1 hd hf
end
end Go.Proofs.YtchngeagnlngaaaGreatDoor
end
section
namespace Go.Proofs.YtchngeagnlngaaaGreatDoor
open Go.RowKit Gal
set_option maxRecDepth 100000 in
set_option maxHeartbeats 4000000 in
theorem layers_same (ls:List Lay) (F G:Nat→Prop) (a0 a1:Option Addr) (n0 n1 k0 k1 b0 b1 o0 o1:Nat) (w:World) (h0:RowAt Form.lay w F a0 n0 k0 b0 o0 ls) (h1:RowAt Form.lay w G a1 n1 k1 b1 o1 ls) :
  Calls Tryz.prog 24 #[.slice a0 n0 k0,.slice a1 n1 k1] w fun e w'=>e=.returned (.bool true)∧Below w.heap.size w w':=by
 have m0:=h0.max
 unfold maxLen at m0
 have l0:=h0.len
 obtain rfl:n0=n1:=by rw [← l0];exact h1.len
 have hne:((n0:Int) != (n0:Int))=false:=by simp
 go_enter Tryz.func24,Tryz.ntmps24
 go_wp2
 go_loopw [5] (fun i wr=>∃ k:Nat,k≤n0∧i=.int .i64 k∧Below w.heap.size w wr) (fun i _=>n0 - (intOf i).toNat)
 case atStart=>exact ⟨0,Nat.zero_le _,rfl,Below.refl _ _⟩
 case round=>
  obtain ⟨k,hk,rfl,hbr⟩:=hrel
  by_cases hlt:k<n0
  ·have hltI:(k:Int)<(n0:Int):=by omega
   obtain rfl:=h0.ptr (by omega)
   obtain rfl:=h1.ptr (by omega)
   obtain ⟨d,hd⟩:∃ d,d=lx ls k:=⟨_,rfl⟩
   obtain ⟨p1,p2,p3,p4,p5,p6,p7,p8,p9,p10,cK,c0,c1,c2,c3,c4,c5,y0,y1⟩:=lay_cells (h0.keep hbr) hlt
   obtain ⟨q1,q2,q3,q4,q5,q6,q7,q8,q9,q10,eK,e0,e1,e2,e3,e4,e5,z0,z1⟩:=lay_cells (h1.keep hbr) hlt
   rw [← hd] at cK c0 c1 c3 c4 y0 y1 eK e0 e1 e3 e4 z0 z1
   clear hd
   go_wp2_with fail
   go_region_held3 (fun w'=>w'.cell? ⟨b0,o0+k*7+1,none⟩=some (.int .i64 d.W.rows)∧w'.cell? ⟨b0,o0+k*7+2,none⟩=some (.int .i64 d.W.cols)∧w'.cell? ⟨b0,o0+k*7+3,none⟩=some (.slice p1 p2 p3)∧w'.cell? ⟨b1,o1+k*7+1,none⟩=some (.int .i64 d.W.rows)∧w'.cell? ⟨b1,o1+k*7+2,none⟩=some (.int .i64 d.W.cols)∧w'.cell? ⟨b1,o1+k*7+3,none⟩=some (.slice q1 q2 q3)) (first|exact ⟨cell_keep hb1 c0,cell_keep hb1 c1,cell_keep hb1 c2,cell_keep hb1 e0,cell_keep hb1 e1,cell_keep hb1 e2⟩|exact ⟨c0,c1,c2,e0,e1,e2⟩) ((go_at_call 51;go_must (refine (matrices_sameM d.W _ _ _ (MatAt.mk (y0.drewN _)) (MatAt.mk (z0.drewN _))).mono ?_);go_must (rintro e w1 ⟨rfl,hb1⟩)))
   have fc3:=cell_keep hb1 c3
   have fc4:=cell_keep hb1 c4
   have fc5:=cell_keep hb1 c5
   have fcK:=cell_keep hb1 cK
   have fe3:=cell_keep hb1 e3
   have fe4:=cell_keep hb1 e4
   have fe5:=cell_keep hb1 e5
   have feK:=cell_keep hb1 eK
   clear c0 c1 c2 c3 c4 c5 cK e0 e1 e2 e3 e4 e5 eK
   go_wp2_with fail
   go_region_held3 (fun w'=>w'.cell? ⟨b0,o0+k*7+4,none⟩=some (.int .i64 d.B.rows)∧w'.cell? ⟨b0,o0+k*7+5,none⟩=some (.int .i64 d.B.cols)∧w'.cell? ⟨b0,o0+k*7+6,none⟩=some (.slice p6 p7 p8)∧w'.cell? ⟨b1,o1+k*7+4,none⟩=some (.int .i64 d.B.rows)∧w'.cell? ⟨b1,o1+k*7+5,none⟩=some (.int .i64 d.B.cols)∧w'.cell? ⟨b1,o1+k*7+6,none⟩=some (.slice q6 q7 q8)) (first|exact ⟨(cell_keep hb2 fc3) ,(cell_keep hb2 fc4) ,(cell_keep hb2 fc5) ,(cell_keep hb2 fe3) ,(cell_keep hb2 fe4) ,(cell_keep hb2 fe5)⟩|exact ⟨fc3 ,fc4 ,fc5 ,fe3 ,fe4 ,fe5⟩) ((go_at_call 51;go_must (refine (matrices_sameM d.B _ _ _ (MatAt.mk (show IntsAt _ p6 p7 p8 p9 p10 d.B.cells from (by first|exact y1.k1 hb1|exact y1.k))) (MatAt.mk (show IntsAt _ q6 q7 q8 q9 q10 d.B.cells from (by first|exact z1.k1 hb1|exact z1.k)))).mono ?_);go_must (rintro e w2 ⟨rfl,hb2⟩)))
   have hbq:Below w.heap.size w w2:=(by repeat (first|(with_reducible first|exact Below.refl _ _|exact hbr|refine Below.al ?_ _|refine Below.drN ?_ _|refine Below.drew ?_|refine Below.sx ?_ _|refine Below.go ?_ hb2|refine Below.go ?_ hb1)|exact Below.refl _ _|exact hbr))
   have gcK:=cell_keep hb2 fcK
   have geK:=cell_keep hb2 feK
   have hkk:(d.kind != d.kind)=false:=by simp
   clear fc3 fc4 fc5 fcK fe3 fe4 fe5 feK y0 y1 z0 z1 hb1 hb2
   go_wp2_with fail
   go_quiet (fail)
   go_wp2
   go_roundw
   case rel=>exact ⟨k+1,by omega,by go_num,(Below.y0 hbq)⟩
   case measure=>simp [intOf];omega
  ·go_wp2
   go_ret
   exact ⟨rfl,hbr⟩
end Go.Proofs.YtchngeagnlngaaaGreatDoor
end
section
set_option maxRecDepth 100000
namespace Go.Proofs.YtchngeagnlngaaaGreatDoor
open Go.RowKit Gal
set_option maxHeartbeats 4000000
theorem lawState_any (z:Int) (a0 a1:Option Addr) (n n1 k0 k1:Nat) (w:World) :
  Calls Tryz.prog 4 #[.agg #[.slice a0 n k0,.slice a1 n1 k1,.int .i64 z]] w fun e w'=>e=.returned (.agg #[.slice a0 n k0,.slice a1 n1 k1,.int .i64 z])∧Below w.heap.size w w':=by
 have hB:Box ((w.alloc (.cells #[.slice a0 n k0,.slice a1 n1 k1,.int .i64 z] 25)).alloc (.cells #[.slice a0 n k0,.slice a1 n1 k1,.int .i64 z] 30)) (w.heap.size+1) [.slice a0 n k0,.slice a1 n1 k1,.int .i64 z] 30:=Box.new' _ _ [.slice a0 n k0,.slice a1 n1 k1,.int .i64 z] _ (by simp)
 have z0:=hB.cell 0
 have z1:=hB.cell 1
 have z2:=hB.cell 2
 go_enter Tryz.func4,Tryz.ntmps4
 go_wp2
 refine bodyPost_ret (v:=.agg #[.slice a0 n k0,.slice a1 n1 k1,.int .i64 z]) (by simp [results,Tryz.results4,go_sem,z0,z1,z2]) rfl ⟨rfl,Below.x0⟩
theorem states_same (s:Sta) (v v':Value) (w:World) (h:StaV w v s) (h':StaV w v' s) :
  Calls Tryz.prog 10 #[v,v'] w fun e w'=>e=.returned (.bool true)∧Below w.heap.size w w':=by
 obtain ⟨a0,n,k0,b0,o0,a1,n1,k1,b1,o1,rfl,h0,h1⟩:=h
 obtain ⟨a2,n2,k2,b2,o2,a3,n3,k3,b3,o3,rfl,h2,h3⟩:=h'
 obtain ⟨z,hz⟩:∃ z,s.steps=z:=⟨_,rfl⟩
 rw [hz]
 clear hz
 go_enter Tryz.func10,Tryz.ntmps10
 go_wp2_with fail
 refine (layers_same s.N anyB anyB _ _ _ _ _ _ _ _ _ _ _ (h0.alloc _ |>.alloc _) (h2.alloc _ |>.alloc _)).mono ?_
 rintro e w1 ⟨rfl,hb1⟩
 have B1:=((show Box _ w.heap.size [.slice a0 n k0,.slice a1 n1 k1,.int .i64 z] 30 from Box.x0)).keep hb1
 have B1c:=B1.cell
 have B1f:=B1.thawed
 have B1z:=B1.lt
 have B1k:=lt_add B1z
 have B2:=((show Box _ (w.heap.size+1) [.slice a2 n2 k2,.slice a3 n3 k3,.int .i64 z] 30 from Box.x0)).keep hb1
 have B2c:=B2.cell
 have B2f:=B2.thawed
 have B2z:=B2.lt
 have B2k:=lt_add B2z
 have hkw1:Below w.heap.size w w1:=(Below.x1 hb1)
 replace h1:=h1.keep hkw1
 replace h3:=h3.keep hkw1
 have hsw1:=hkw1.size
 go_wp2_with fail
 refine (grads_same s.V anyB anyB _ _ _ _ _ _ _ _ _ _ _ h1 h3).mono ?_
 rintro e w2 ⟨rfl,hb2⟩
 have hkw2:Below w1.heap.size w1 w2:=(Below.x1 hb2)
 replace B1:=B1.keep hkw2
 replace B1c:=B1.cell
 replace B1f:=B1.thawed
 replace B1z:=B1.lt
 replace B1k:=lt_add B1z
 replace B2:=B2.keep hkw2
 replace B2c:=B2.cell
 replace B2f:=B2.thawed
 replace B2z:=B2.lt
 replace B2k:=lt_add B2z
 have hsw2:=hkw2.size
 have hbe:Below w.heap.size w w2:=(Below.x2 hb2 hb1)
 have hzz:(z == z)=true:=by simp
 clear h0 h1 h2 h3 hb1 hb2
 go_wp2
 go_ret
 exact ⟨rfl,hbe⟩
end Go.Proofs.YtchngeagnlngaaaGreatDoor
end
