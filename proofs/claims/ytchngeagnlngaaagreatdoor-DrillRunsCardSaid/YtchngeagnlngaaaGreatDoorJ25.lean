/- Texts joined: Step4. -/
import Derived.Test.YtchngeagnlngaaaGreatDoorJ24
set_option linter.unusedVariables false
set_option linter.unusedSimpArgs false
set_option linter.unusedSectionVars false
section
namespace Gal
open Go Go.RowKit
theorem stepFault_is {ls:List Lay} {vs ds:List Grd} {ln kp:Int} (h1:¬ (ln<0∨256<ln∨kp<0∨256<kp)) (h2:¬ 12<ls.length) (h3:¬ (vs.length≠ls.length∨ds.length≠ls.length)):stepFault ls vs ds ln kp=stepFaultTo ls vs ds ls.length:=by
 unfold stepFault
 rw [if_neg h1,if_neg h2,if_neg h3]
def freshB (base p q b:Nat):Prop:=base≤b∧b≠p∧b≠q
end Gal
namespace Go.Proofs.YtchngeagnlngaaaGreatDoor
open Go.RowKit Gal
set_option maxRecDepth 100000
set_option maxHeartbeats 2000000
theorem stepDo_run (ls:List Lay) (vs ds:List Grd) (ln kp:Int) (F G H:Nat→Prop) (a0 a1 a2:Option Addr) (n k0 k1 k2 b0 b1 b2 o0 o1 o2:Nat) (w:World) (h0:RowAt Form.lay w F a0 n k0 b0 o0 ls) (h1:RowAt Form.grd w G a1 n k1 b1 o1 vs) (h2:RowAt Form.grd w H a2 n k2 b2 o2 ds)
    (hb:¬ (ln<0∨256<ln∨kp<0∨256<kp)) (h12:n≤12) :
    Calls Tryz.prog 92 #[.slice a0 n k0,.slice a1 n k1,.slice a2 n k2,.agg #[.int .i64 ln,.int .i64 kp]] w fun e w'=>∃ v d,e=.returned (.tuple #[v,d,errV (stepFault ls vs ds ln kp)])∧Below w.heap.size w w' ∧
      (stepFault ls vs ds ln kp=0→∃ a' b' a'' b'',v=.slice a' n n∧d=.slice a'' n n∧RowAt Form.lay w' (newB w.heap.size) a' n n b' 0 (stepLays ls vs ds ln kp n)∧RowAt Form.grd w' (newB w.heap.size) a'' n n b'' 0 (stepGrds ls vs ds kp n)) ∧
      (stepFault ls vs ds ln kp≠0→v=.slice none 0 0∧d=.slice none 0 0):=by
  have HF:Hid (stepFault ls vs ds ln kp=stepFaultTo ls vs ds n):=Lib.hid (by have e0:=h0.len;have e1:=h1.len;have e2:=h2.len;rw [stepFault_is hb (by omega) (by omega),e0])
  have HL0:=Lib.hid h0.len
  have HL1:=Lib.hid h1.len
  have HL2:=Lib.hid h2.len
  rw [HF.out]
  have g1:decide (ln<0)=false:=by simp;omega
  have g2:decide (256<ln)=false:=by simp;omega
  have g3:decide (kp<0)=false:=by simp;omega
  have g4:decide (256<kp)=false:=by simp;omega
  have g5:((n:Int) != (n:Int))=false:=by simp
  have g6:decide (12<n)=false:=by simp;omega
  have g7:¬ (12<(n:Int)):=by omega
  obtain ⟨i0,hi,hz0,hz1,hz2⟩:=info_parts info_layer
  obtain ⟨i1,hi',hz0',hz1',hz2'⟩:=info_parts info_grad
  have hmk:=fun W=>run_make_rowN (P:=Tryz.prog) 22 84 i0 _ Tryz.underlying22 hi hz0 .i64 .i64 n n (n:Int) (n:Int) rfl rfl (Nat.le_refl _) (by rw [hz2];omega) (by omega) W
  rw [hz1] at hmk
  have hmk':=fun W=>run_make_rowN (P:=Tryz.prog) 23 86 i1 _ Tryz.underlying23 hi' hz0' .i64 .i64 n n (n:Int) (n:Int) rfl rfl (Nat.le_refl _) (by rw [hz2'];omega) (by omega) W
  rw [hz1'] at hmk'
  obtain ⟨cs0,hcs0⟩:∃ cs:List Value,madeCells (Value.agg #[.int .i64 0,.int .i64 0,.int .i64 0,.slice none 0 0,.int .i64 0,.int .i64 0,.slice none 0 0]).cells (n*7)=cs.toArray:=⟨_,(Array.toArray_toList).symm⟩
  obtain ⟨ds0,hds0⟩:∃ cs:List Value,madeCells (Value.agg #[.int .i64 0,.int .i64 0,.slice none 0 0,.int .i64 0,.int .i64 0,.slice none 0 0]).cells (n*6)=cs.toArray:=⟨_,(Array.toArray_toList).symm⟩
  have HCL:Hid (cs0.length=n*7):=Lib.hid (by have:=congrArg Array.size hcs0;rw [size_madeCells] at this;simpa using this.symm)
  have HDL:Hid (ds0.length=n*6):=Lib.hid (by have:=congrArg Array.size hds0;rw [size_madeCells] at this;simpa using this.symm)
  rw [hcs0] at hmk
  rw [hds0] at hmk'
  clear hcs0 hds0 hz0 hz1 hz2 hz0' hz1' hz2' hi hi' hb
  go_enter Tryz.func92,Tryz.ntmps92
  go_wp2_with fail
  obtain ⟨w0,hw0,B7,hb0⟩:∃ w0,(w.alloc (.cells #[.int .i64 ln,.int .i64 kp] 28))=w0∧Box w0 w.heap.size [.int .i64 ln,.int .i64 kp] 28∧Below w.heap.size w w0:=⟨_,rfl,Box.new _ _ _,Below.x0⟩
  rw [hw0]
  clear hw0
  have hz0:w.heap.size<w0.heap.size:=B7.lt
  go_cut [11,12] (fun s s' wx=>∃ p q,s=.slice (some ⟨p,0,none⟩) n n∧s'=.slice (some ⟨q,0,none⟩) n n∧p≠q∧w0.heap.size≤p∧w0.heap.size≤q∧Box wx p cs0 84∧Box wx q ds0 86∧Below w0.heap.size w0 wx)
  case first=>
    go_region
    all_goals (
      go_wp2_with fail
      go_meet
      first
      | exact ⟨_,_,rfl,rfl,by omega,by omega,by omega,(Box.new' _ _ _ _ (by simp)),(Box.new' _ _ _ _ (by simp)).alloc _,Below.x0⟩
      | exact ⟨_,_,rfl,rfl,by omega,by omega,by omega,(Box.new' _ _ _ _ (by simp)).alloc _,(Box.new' _ _ _ _ (by simp)),Below.x0⟩)
  case rest =>
    obtain ⟨p,q,rfl,rfl,hpq,hp,hq,P,Q,hbA⟩:=hcut
    have B7':Box wc w.heap.size [.int .i64 ln,.int .i64 kp] 28:=(by first|exact B7.k1 hbA|exact B7.k)
    have hbw:Below w.heap.size w wc:=(Below.y1 hbA hb0)
    have hqp:q≠p:=Ne.symm hpq
    have hp':w.heap.size<p:=by omega
    have hq':w.heap.size<q:=by omega
    have hpl:=P.lt
    have hql:=Q.lt
    have hwz:=hbw.size
    clear B7 hmk hmk' hb0 hbA hz0
    obtain ⟨wA,rfl⟩:∃ wA,wA=wc:=⟨_,rfl⟩
    go_wp2_with fail
    go_loopw [60] (fun i wr=>∃ (t:Nat) (cs es:List Value),t≤n∧i=.int .i64 t∧Hid (stepFaultTo ls vs ds t=0)∧Far (fun b=>b=p∨b=q) wA wr∧Box wr p cs 84∧Hid (cs.length=n*7)∧PartOf Form.lay wr (freshB w.heap.size p q) cs (stepLays ls vs ds ln kp t)∧Box wr q es 86∧Hid (es.length=n*6)∧PartOf Form.grd wr (freshB w.heap.size p q) es (stepGrds ls vs ds kp t)) (fun i _=>n - (intOf i).toNat)
    case atStart=>exact ⟨0,cs0,ds0,Nat.zero_le _,rfl,Lib.hid rfl,Far.refl _ _,P,HCL,PartOf.nil,Q,HDL,PartOf.nil⟩
    case round=>
      obtain ⟨t,cs,es,ht,rfl,HT,hfr,P1,HPL,HPP,Q1,HQL,HQP⟩:=hrel
      have hbr:Below w.heap.size w wr:=Far.toBelow hbw hfr (by omega) (fun b hb=>by rcases hb with rfl|rfl <;> omega)
      have R1:Box wr w.heap.size [.int .i64 ln,.int .i64 kp] 28:=B7'.farS hfr (by rintro (e|e) <;> omega)
      have hp1:=P1.lt
      have hq1:=Q1.lt
      clear P Q
      by_cases hlt:t<n
      · have hltI:(t:Int)<(n:Int):=by omega
        obtain rfl:=h0.ptr (by omega)
        obtain rfl:=h1.ptr (by omega)
        obtain rfl:=h2.ptr (by omega)
        obtain ⟨a3,n3,k3,b3,o3,a4,n4,k4,b4,o4,cK,c0,c1,c2,c3,c4,c5,x3,x4⟩:=lay_cells h0 hlt
        obtain ⟨a5,n5,k5,b5,o5,a6,n6,k6,b6,o6,e0,e1,e2,e3,e4,e5,x5,x6⟩:=grd_cells h1 (gx_get (by rw [HL1.out];exact hlt))
        obtain ⟨a7,n7,k7,b7,o7,a8,n8,k8,b8,o8,f0,f1,f2,f3,f4,f5,x7,x8⟩:=grd_cells h2 (gx_get (by rw [HL2.out];exact hlt))
        have l3:=x3.lt
        have l4:=x4.lt
        have l5:=x5.lt
        have l6:=x6.lt
        have l7:=x7.lt
        have l8:=x8.lt
        have lb1:=h1.lt (by omega)
        have lb2:=h2.lt (by omega)
        replace cK:=cell_keep hbr cK
        replace c0:=cell_keep hbr c0
        replace c1:=cell_keep hbr c1
        replace c2:=cell_keep hbr c2
        replace c3:=cell_keep hbr c3
        replace c4:=cell_keep hbr c4
        replace c5:=cell_keep hbr c5
        replace x3:=x3.keep hbr
        replace x4:=x4.keep hbr
        replace x5:=x5.keep hbr
        replace x6:=x6.keep hbr
        replace x7:=x7.keep hbr
        replace x8:=x8.keep hbr
        obtain ⟨l,hl⟩:∃ l,l=lx ls t:=⟨_,rfl⟩
        obtain ⟨v,hv⟩:∃ v,v=gx vs t:=⟨_,rfl⟩
        obtain ⟨d,hd⟩:∃ d,d=gx ds t:=⟨_,rfl⟩
        rw [← hl] at cK c0 c1 c3 c4 x3 x4
        rw [← hv] at e0 e1 e3 e4 x5 x6
        rw [← hd] at f0 f1 f3 f4 x7 x8
        have HX:Hid (l=lx ls t∧v=gx vs t∧d=gx ds t):=Lib.hid ⟨hl,hv,hd⟩
        clear hl hv hd
        have BX:=Box.new wr [.int .i64 l.kind,.int .i64 l.W.rows,.int .i64 l.W.cols,.slice a3 n3 k3,.int .i64 l.B.rows,.int .i64 l.B.cols,.slice a4 n4 k4] 84
        have hal:Below wr.heap.size wr (wr.alloc (.cells #[.int .i64 l.kind,.int .i64 l.W.rows,.int .i64 l.W.cols,.slice a3 n3 k3,.int .i64 l.B.rows,.int .i64 l.B.cols,.slice a4 n4 k4] 84)):=Below.x0
        have MV:Cells6 (wr.alloc (.cells #[.int .i64 l.kind,.int .i64 l.W.rows,.int .i64 l.W.cols,.slice a3 n3 k3,.int .i64 l.B.rows,.int .i64 l.B.cols,.slice a4 n4 k4] 84)) b1 (o1+t*6) _ _ _ _ _ _:=Cells6.keep (Cells6.keep ⟨e0,e1,e2,e3,e4,e5⟩ hbr) hal
        have MD:Cells6 (wr.alloc (.cells #[.int .i64 l.kind,.int .i64 l.W.rows,.int .i64 l.W.cols,.slice a3 n3 k3,.int .i64 l.B.rows,.int .i64 l.B.cols,.slice a4 n4 k4] 84)) b2 (o2+t*6) _ _ _ _ _ _:=Cells6.keep (Cells6.keep ⟨f0,f1,f2,f3,f4,f5⟩ hbr) hal
        clear e0 e1 e2 e3 e4 e5 f0 f1 f2 f3 f4 f5
        replace x3:=x3.keep hal
        replace x4:=x4.keep hal
        replace x5:=x5.keep hal
        replace x6:=x6.keep hal
        replace x7:=x7.keep hal
        replace x8:=x8.keep hal
        by_cases hf:fitsFault l v d=0
        · have HE:Hid (errV (fitsFault l v d)=.nilIface):=Lib.hid (errV_nil hf)
          have HFF:=Lib.hid hf
          obtain ⟨z3,z4,z5,z6,z7,z8⟩:=fits_lens hf
          rw [x3.len] at z3 z5 z7
          rw [x4.len] at z4 z6 z8
          rw [x5.len] at z5
          rw [x6.len] at z6
          rw [x7.len] at z7
          rw [x8.len] at z8
          obtain rfl:n3=n5:=z5.symm
          obtain rfl:n3=n7:=z7.symm
          obtain rfl:n4=n6:=z6.symm
          obtain rfl:n4=n8:=z8.symm
          clear hf
          go_wp2_with fail
          go_region_held3 (fun w'=>w'.cell? ⟨wr.heap.size,0,none⟩=some (.int .i64 l.kind)∧w'.cell? ⟨wr.heap.size,1,none⟩=some (.int .i64 l.W.rows)∧w'.cell? ⟨wr.heap.size,2,none⟩=some (.int .i64 l.W.cols)∧w'.cell? ⟨wr.heap.size,3,none⟩=some (.slice a3 n3 k3)∧w'.cell? ⟨wr.heap.size,4,none⟩=some (.int .i64 l.B.rows)∧w'.cell? ⟨wr.heap.size,5,none⟩=some (.int .i64 l.B.cols)∧w'.cell? ⟨wr.heap.size,6,none⟩=some (.slice a4 n4 k4)∧w'.cell? ⟨b1,o1+t*6,none⟩=some (.int .i64 v.W.rows)∧w'.cell? ⟨b1,o1+t*6+1,none⟩=some (.int .i64 v.W.cols)∧w'.cell? ⟨b1,o1+t*6+2,none⟩=some (.slice a5 n3 k5)∧w'.cell? ⟨b1,o1+t*6+3,none⟩=some (.int .i64 v.B.rows)∧w'.cell? ⟨b1,o1+t*6+4,none⟩=some (.int .i64 v.B.cols)∧w'.cell? ⟨b1,o1+t*6+5,none⟩=some (.slice a6 n4 k6)∧w'.cell? ⟨b2,o2+t*6,none⟩=some (.int .i64 d.W.rows)∧w'.cell? ⟨b2,o2+t*6+1,none⟩=some (.int .i64 d.W.cols)∧w'.cell? ⟨b2,o2+t*6+2,none⟩=some (.slice a7 n3 k7)∧w'.cell? ⟨b2,o2+t*6+3,none⟩=some (.int .i64 d.B.rows)∧w'.cell? ⟨b2,o2+t*6+4,none⟩=some (.int .i64 d.B.cols)∧w'.cell? ⟨b2,o2+t*6+5,none⟩=some (.slice a8 n4 k8)) (exact cells766 (t:=84) (by first|exact BX.k1 hb7|exact BX.k) (by repeat (first|(with_reducible first|exact MV|refine Cells6.alloc ?_ _|refine Cells6.drewN ?_ _|refine Cells6.drew ?_|(refine Cells6.far ?_ ?_ _;rotate_left 1;(first|(dsimp only;omega)|omega|(simp;omega)|simp))|refine Cells6.keep ?_ hb7)|exact MV)) (by repeat (first|(with_reducible first|exact MD|refine Cells6.alloc ?_ _|refine Cells6.drewN ?_ _|refine Cells6.drew ?_|(refine Cells6.far ?_ ?_ _;rotate_left 1;(first|(dsimp only;omega)|omega|(simp;omega)|simp))|refine Cells6.keep ?_ hb7)|exact MD))) ((go_at_call 108;go_must (refine (fits_any l v d _ _ _ _ _ _ _ _ _ _ _ _ _ _ _ _ _ _ _ _ _ _ _ _ _ _ _ _ _ _ _ (show IntsAt _ a3 n3 k3 b3 o3 l.W.cells from x3.k) (show IntsAt _ a4 n4 k4 b4 o4 l.B.cells from x4.k) (show IntsAt _ a5 n3 k5 b5 o5 v.W.cells from x5.k) (show IntsAt _ a6 n4 k6 b6 o6 v.B.cells from x6.k) (show IntsAt _ a7 n3 k7 b7 o7 d.W.cells from x7.k) (show IntsAt _ a8 n4 k8 b8 o8 d.B.cells from x8.k)).mono ?_);rw [HE.out];go_must (rintro e w7 ⟨rfl,hb7⟩)))
          have P7:Box w7 p cs 84:=(by first|exact P1.k1 hb7|exact P1.k)
          have Q7:Box w7 q es 86:=(by first|exact Q1.k1 hb7|exact Q1.k)
          have R7:Box w7 w.heap.size [.int .i64 ln,.int .i64 kp] 28:=(by first|exact R1.k1 hb7|exact R1.k)
          have B14:Box w7 wr.heap.size [.int .i64 l.kind,.int .i64 l.W.rows,.int .i64 l.W.cols,.slice a3 n3 k3,.int .i64 l.B.rows,.int .i64 l.B.cols,.slice a4 n4 k4] 84:=(by first|exact BX.k1 hb7|exact BX.k)
          have MV7:Cells6 w7 b1 (o1+t*6) (.int .i64 v.W.rows) (.int .i64 v.W.cols) (.slice a5 n3 k5) (.int .i64 v.B.rows) (.int .i64 v.B.cols) (.slice a6 n4 k6):=(by repeat (first|(with_reducible first|exact MV|refine Cells6.alloc ?_ _|refine Cells6.drewN ?_ _|refine Cells6.drew ?_|(refine Cells6.far ?_ ?_ _;rotate_left 1;(first|(dsimp only;omega)|omega|(simp;omega)|simp))|refine Cells6.keep ?_ hb7)|exact MV))
          have MD7:Cells6 w7 b2 (o2+t*6) (.int .i64 d.W.rows) (.int .i64 d.W.cols) (.slice a7 n3 k7) (.int .i64 d.B.rows) (.int .i64 d.B.cols) (.slice a8 n4 k8):=(by repeat (first|(with_reducible first|exact MD|refine Cells6.alloc ?_ _|refine Cells6.drewN ?_ _|refine Cells6.drew ?_|(refine Cells6.far ?_ ?_ _;rotate_left 1;(first|(dsimp only;omega)|omega|(simp;omega)|simp))|refine Cells6.keep ?_ hb7)|exact MD))
          obtain ⟨y3,y4,y5,y6,y7,y8⟩:IntsAt w7 a3 n3 k3 b3 o3 l.W.cells∧IntsAt w7 a4 n4 k4 b4 o4 l.B.cells∧IntsAt w7 a5 n3 k5 b5 o5 v.W.cells∧IntsAt w7 a6 n4 k6 b6 o6 v.B.cells∧IntsAt w7 a7 n3 k7 b7 o7 d.W.cells∧IntsAt w7 a8 n4 k8 b8 o8 d.B.cells:=⟨(by first|exact x3.k1 hb7|exact x3.k),(by first|exact x4.k1 hb7|exact x4.k),(by first|exact x5.k1 hb7|exact x5.k),(by first|exact x6.k1 hb7|exact x6.k),(by first|exact x7.k1 hb7|exact x7.k),(by first|exact x8.k1 hb7|exact x8.k)⟩
          have hb7':Below wr.heap.size wr w7:=(Below.x1 hb7)
          have hf7:Far (fun b=>b=p∨b=q) wr w7:=Far.of_below hb7'
          obtain ⟨u0,cu0⟩:=P7.has (i:=t*7) (by rw [HPL.out];omega)
          have cf0:=P7.thawed (t*7)
          have c140:=B14.cell 0
          have hz7:=hb7'.size
          clear BX MV MD x3 x4 x5 x6 x7 x8 hal hb7 hb7' P1 Q1 R1 cK c0 c1 c2 c3 c4 c5
          go_wp2_with fail
          obtain ⟨wq,hwq,P8,Q8,R8,B8,MV8,MD8,y3,y4,y5,y6,y7,y8,hf8⟩:∃ wq,(w7.setCell ⟨p,t*7,none⟩ (.int .i64 l.kind))=wq∧Box wq p (cs.set (t*7) (.int .i64 l.kind)) 84∧Box wq q es 86∧Box wq w.heap.size [.int .i64 ln,.int .i64 kp] 28∧Box wq wr.heap.size [.int .i64 l.kind,.int .i64 l.W.rows,.int .i64 l.W.cols,.slice a3 n3 k3,.int .i64 l.B.rows,.int .i64 l.B.cols,.slice a4 n4 k4] 84∧Cells6 wq b1 (o1+t*6) (.int .i64 v.W.rows) (.int .i64 v.W.cols) (.slice a5 n3 k5) (.int .i64 v.B.rows) (.int .i64 v.B.cols) (.slice a6 n4 k6)∧Cells6 wq b2 (o2+t*6) (.int .i64 d.W.rows) (.int .i64 d.W.cols) (.slice a7 n3 k7) (.int .i64 d.B.rows) (.int .i64 d.B.cols) (.slice a8 n4 k8)∧IntsAt wq a3 n3 k3 b3 o3 l.W.cells∧IntsAt wq a4 n4 k4 b4 o4 l.B.cells∧IntsAt wq a5 n3 k5 b5 o5 v.W.cells∧IntsAt wq a6 n4 k6 b6 o6 v.B.cells∧IntsAt wq a7 n3 k7 b7 o7 d.W.cells∧IntsAt wq a8 n4 k8 b8 o8 d.B.cells∧Far (fun b=>b=p∨b=q) wr wq:=
            ⟨_,rfl,P7.set _ _,Q7.far hqp _,R7.far (by simp;omega) _,B14.far (by simp;omega) _,MV7.far (by simp;omega) _,MD7.far (by simp;omega) _,y3.set (fun h=>by have:=l3 h;simp;omega) _,y4.set (fun h=>by have:=l4 h;simp;omega) _,y5.set (fun h=>by have:=l5 h;simp;omega) _,y6.set (fun h=>by have:=l6 h;simp;omega) _,y7.set (fun h=>by have:=l7 h;simp;omega) _,y8.set (fun h=>by have:=l8 h;simp;omega) _,hf7.st (fun _=>Or.inl rfl) _⟩
          rw [hwq]
          clear P7 Q7 R7 B14 MV7 MD7 hf7 hwq cu0 cf0 c140
          have hzq:p<wq.heap.size∧q<wq.heap.size:=⟨P8.lt,Q8.lt⟩
          go_cut [84] (fun _ wx=>∃ a9 m9 k9 b9 o9 aA mA kA bA oA,IntsAt wx a9 m9 k9 b9 o9 (stepTo l.W v.W d.W ln kp).cells∧(0<m9→wq.heap.size≤b9)∧IntsAt wx aA mA kA bA oA (stepSpeed l.W v.W d.W kp).cells∧(0<mA→wq.heap.size≤bA)∧Box wx p ((((cs.set (t*7) (.int .i64 l.kind)).set (t*7+1) (.int .i64 (stepTo l.W v.W d.W ln kp).rows)).set (t*7+2) (.int .i64 (stepTo l.W v.W d.W ln kp).cols)).set (t*7+3) (.slice a9 m9 k9)) 84∧Box wx q (((es.set (t*6) (.int .i64 (stepSpeed l.W v.W d.W kp).rows)).set (t*6+1) (.int .i64 (stepSpeed l.W v.W d.W kp).cols)).set (t*6+2) (.slice aA mA kA)) 86∧Far (fun b=>b=p∨b=q) wq wx)
          case first=>
            go_region_held3 (fun w'=>w'.cell? ⟨wr.heap.size,1,none⟩=some (.int .i64 l.W.rows)∧w'.cell? ⟨wr.heap.size,2,none⟩=some (.int .i64 l.W.cols)∧w'.cell? ⟨wr.heap.size,3,none⟩=some (.slice a3 n3 k3)∧w'.cell? ⟨b1,o1+t*6,none⟩=some (.int .i64 v.W.rows)∧w'.cell? ⟨b1,o1+t*6+1,none⟩=some (.int .i64 v.W.cols)∧w'.cell? ⟨b1,o1+t*6+2,none⟩=some (.slice a5 n3 k5)∧w'.cell? ⟨b2,o2+t*6,none⟩=some (.int .i64 d.W.rows)∧w'.cell? ⟨b2,o2+t*6+1,none⟩=some (.int .i64 d.W.cols)∧w'.cell? ⟨b2,o2+t*6+2,none⟩=some (.slice a7 n3 k7)∧w'.cell? ⟨w.heap.size,0,none⟩=some (.int .i64 ln)∧w'.cell? ⟨w.heap.size,1,none⟩=some (.int .i64 kp)) (exact cells_w (t:=84) (u:=28) (show Box _ wr.heap.size [.int .i64 l.kind,.int .i64 l.W.rows,.int .i64 l.W.cols,.slice a3 n3 k3,.int .i64 l.B.rows,.int .i64 l.B.cols,.slice a4 n4 k4] 84 from (by first|exact B8.k1 hb8|exact B8.k)) (show Cells6 _ b1 (o1+t*6) (.int .i64 v.W.rows) (.int .i64 v.W.cols) (.slice a5 n3 k5) (.int .i64 v.B.rows) (.int .i64 v.B.cols) (.slice a6 n4 k6) from (by repeat (first|(with_reducible first|exact MV8|refine Cells6.alloc ?_ _|refine Cells6.drewN ?_ _|refine Cells6.drew ?_|(refine Cells6.far ?_ ?_ _;rotate_left 1;(first|(dsimp only;omega)|omega|(simp;omega)|simp))|refine Cells6.keep ?_ hb8)|exact MV8))) (show Cells6 _ b2 (o2+t*6) (.int .i64 d.W.rows) (.int .i64 d.W.cols) (.slice a7 n3 k7) (.int .i64 d.B.rows) (.int .i64 d.B.cols) (.slice a8 n4 k8) from (by repeat (first|(with_reducible first|exact MD8|refine Cells6.alloc ?_ _|refine Cells6.drewN ?_ _|refine Cells6.drew ?_|(refine Cells6.far ?_ ?_ _;rotate_left 1;(first|(dsimp only;omega)|omega|(simp;omega)|simp))|refine Cells6.keep ?_ hb8)|exact MD8))) (show Box _ w.heap.size [.int .i64 ln,.int .i64 kp] 28 from (by first|exact R8.k1 hb8|exact R8.k))) ((go_at_call 109;go_must (refine (turned_any l.W v.W d.W ln kp _ _ _ n3 _ _ _ _ _ _ _ _ _ _ z3 (show IntsAt _ a3 n3 k3 b3 o3 l.W.cells from y3.k) (show IntsAt _ a5 n3 k5 b5 o5 v.W.cells from y5.k) (show IntsAt _ a7 n3 k7 b7 o7 d.W.cells from y7.k)).mono ?_);go_must (rintro e w8 ⟨x,y,rfl,⟨a9,m9,k9,b9,o9,rfl,hn9,i9⟩,⟨aA,mA,kA,bA,oA,rfl,hnA,iA⟩,hb8⟩);have P9:Box w8 p (cs.set (t*7) (.int .i64 l.kind)) 84:=(by first|exact P8.k1 hb8|exact P8.k);have Q9:Box w8 q es 86:=(by first|exact Q8.k1 hb8|exact Q8.k);obtain ⟨u0,cu0⟩:=P9.has (i:=t*7+1) (by (try simp only [List.length_set]);rw [HPL.out];omega);obtain ⟨u1,cu1⟩:=P9.has (i:=t*7+2) (by (try simp only [List.length_set]);rw [HPL.out];omega);obtain ⟨u2,cu2⟩:=P9.has (i:=t*7+3) (by (try simp only [List.length_set]);rw [HPL.out];omega);obtain ⟨v0,cv0⟩:=Q9.has (i:=t*6) (by (try simp only [List.length_set]);rw [HQL.out];omega);obtain ⟨v1,cv1⟩:=Q9.has (i:=t*6+1) (by (try simp only [List.length_set]);rw [HQL.out];omega);obtain ⟨v2,cv2⟩:=Q9.has (i:=t*6+2) (by (try simp only [List.length_set]);rw [HQL.out];omega);have cfp:=P9.thawed;have cfq:=Q9.thawed))
            all_goals (
              go_wp2_with fail
              go_meet
              have hm9:0<m9→wq.heap.size≤b9:=fun h=>by have:=hn9 h;simp at this;omega
              have hmA:0<mA→wq.heap.size≤bA:=fun h=>by have:=hnA h;simp at this;omega
              have hfq:Below wq.heap.size wq w8:=(Below.x1 hb8)
              refine ⟨a9,m9,k9,b9,o9,aA,mA,kA,bA,oA,(by repeat (first|(with_reducible first|exact i9|refine IntsAt.alloc ?_ _|refine IntsAt.drewN ?_ _|refine IntsAt.drew ?_|(refine IntsAt.set ?_ ?_ _;rotate_left 1;(intro h0;have hq0:=hm9 h0;first|(dsimp only;omega)|omega|(simp;omega)|simp)))|exact i9)),hm9,(by repeat (first|(with_reducible first|exact iA|refine IntsAt.alloc ?_ _|refine IntsAt.drewN ?_ _|refine IntsAt.drew ?_|(refine IntsAt.set ?_ ?_ _;rotate_left 1;(intro h0;have hq0:=hmA h0;first|(dsimp only;omega)|omega|(simp;omega)|simp)))|exact iA)),hmA,?_,?_,?_⟩
              · (repeat (first|(with_reducible refine Box.drew ?_)|(with_reducible refine Box.drewN ?_ _)|(with_reducible refine Box.set ?_ _ _)|(refine Box.far ?_ (by simp;omega) _)));exact P9
              · (repeat (first|(with_reducible refine Box.drew ?_)|(with_reducible refine Box.drewN ?_ _)|(with_reducible refine Box.set ?_ _ _)|(refine Box.far ?_ (by simp;omega) _)));exact Q9
              · (repeat (first|(with_reducible refine Far.drew ?_)|(with_reducible refine Far.drN ?_ _)|(refine Far.st ?_ (fun _=>by simp) _)));exact Far.of_below hfq)
          case rest=>
          obtain ⟨a9,m9,k9,b9,o9,aA,mA,kA,bA,oA,i9,hm9,iA,hmA,P9,Q9,hf9⟩:=hcut
          obtain ⟨wB,rfl⟩:∃ wB,wB=wc:=⟨_,rfl⟩
          have hz9:=hf9.size
          have hz8:=hf8.size
          have hbz:=hbr.size
          have hfB:Far (fun b=>b=p∨b=q) wr wB:=hf8.trans hf9
          replace R8:=R8.farS hf9 (by rintro (e|e) <;> omega)
          replace B8:=B8.farS hf9 (by rintro (e|e) <;> omega)
          replace MV8:=MV8.farS hf9 (by rintro (e|e) <;> omega)
          replace MD8:=MD8.farS hf9 (by rintro (e|e) <;> omega)
          replace y4:=y4.farS hf9 (fun h=>by have:=l4 h;rintro (e|e) <;> omega)
          replace y6:=y6.farS hf9 (fun h=>by have:=l6 h;rintro (e|e) <;> omega)
          replace y8:=y8.farS hf9 (fun h=>by have:=l8 h;rintro (e|e) <;> omega)
          clear P8 Q8 y3 y5 y7 hf8 hf9
          have P8:=P9
          have Q8:=Q9
          clear P9 Q9
          have hzB:p<wB.heap.size∧q<wB.heap.size:=⟨P8.lt,Q8.lt⟩
          go_wp2_with fail
          go_region_held3 (fun w'=>w'.cell? ⟨wr.heap.size,4,none⟩=some (.int .i64 l.B.rows)∧w'.cell? ⟨wr.heap.size,5,none⟩=some (.int .i64 l.B.cols)∧w'.cell? ⟨wr.heap.size,6,none⟩=some (.slice a4 n4 k4)∧w'.cell? ⟨b1,o1+t*6+3,none⟩=some (.int .i64 v.B.rows)∧w'.cell? ⟨b1,o1+t*6+4,none⟩=some (.int .i64 v.B.cols)∧w'.cell? ⟨b1,o1+t*6+5,none⟩=some (.slice a6 n4 k6)∧w'.cell? ⟨b2,o2+t*6+3,none⟩=some (.int .i64 d.B.rows)∧w'.cell? ⟨b2,o2+t*6+4,none⟩=some (.int .i64 d.B.cols)∧w'.cell? ⟨b2,o2+t*6+5,none⟩=some (.slice a8 n4 k8)∧w'.cell? ⟨w.heap.size,0,none⟩=some (.int .i64 ln)∧w'.cell? ⟨w.heap.size,1,none⟩=some (.int .i64 kp)) (exact cells_b (t:=84) (u:=28) (show Box _ wr.heap.size [.int .i64 l.kind,.int .i64 l.W.rows,.int .i64 l.W.cols,.slice a3 n3 k3,.int .i64 l.B.rows,.int .i64 l.B.cols,.slice a4 n4 k4] 84 from (by first|exact B8.k1 hb8|exact B8.k)) (show Cells6 _ b1 (o1+t*6) (.int .i64 v.W.rows) (.int .i64 v.W.cols) (.slice a5 n3 k5) (.int .i64 v.B.rows) (.int .i64 v.B.cols) (.slice a6 n4 k6) from (by repeat (first|(with_reducible first|exact MV8|refine Cells6.alloc ?_ _|refine Cells6.drewN ?_ _|refine Cells6.drew ?_|(refine Cells6.far ?_ ?_ _;rotate_left 1;(first|(dsimp only;omega)|omega|(simp;omega)|simp))|refine Cells6.keep ?_ hb8)|exact MV8))) (show Cells6 _ b2 (o2+t*6) (.int .i64 d.W.rows) (.int .i64 d.W.cols) (.slice a7 n3 k7) (.int .i64 d.B.rows) (.int .i64 d.B.cols) (.slice a8 n4 k8) from (by repeat (first|(with_reducible first|exact MD8|refine Cells6.alloc ?_ _|refine Cells6.drewN ?_ _|refine Cells6.drew ?_|(refine Cells6.far ?_ ?_ _;rotate_left 1;(first|(dsimp only;omega)|omega|(simp;omega)|simp))|refine Cells6.keep ?_ hb8)|exact MD8))) (show Box _ w.heap.size [.int .i64 ln,.int .i64 kp] 28 from (by first|exact R8.k1 hb8|exact R8.k))) ((go_at_call 109;go_must (refine (turned_any l.B v.B d.B ln kp _ _ _ n4 _ _ _ _ _ _ _ _ _ _ z4 (show IntsAt _ a4 n4 k4 b4 o4 l.B.cells from y4.k) (show IntsAt _ a6 n4 k6 b6 o6 v.B.cells from y6.k) (show IntsAt _ a8 n4 k8 b8 o8 d.B.cells from y8.k)).mono ?_);go_must (rintro e w8 ⟨x,y,rfl,⟨aB,mB,kB,bB,oB,rfl,hnB,iB⟩,⟨aC,mC,kC,bC,oC,rfl,hnC,iC⟩,hb8⟩);have P9:Box w8 p ((((cs.set (t*7) (.int .i64 l.kind)).set (t*7+1) (.int .i64 (stepTo l.W v.W d.W ln kp).rows)).set (t*7+2) (.int .i64 (stepTo l.W v.W d.W ln kp).cols)).set (t*7+3) (.slice a9 m9 k9)) 84:=(by first|exact P8.k1 hb8|exact P8.k);have Q9:Box w8 q (((es.set (t*6) (.int .i64 (stepSpeed l.W v.W d.W kp).rows)).set (t*6+1) (.int .i64 (stepSpeed l.W v.W d.W kp).cols)).set (t*6+2) (.slice aA mA kA)) 86:=(by first|exact Q8.k1 hb8|exact Q8.k);obtain ⟨u0,cu0⟩:=P9.has (i:=t*7+4) (by (try simp only [List.length_set]);rw [HPL.out];omega);obtain ⟨u1,cu1⟩:=P9.has (i:=t*7+5) (by (try simp only [List.length_set]);rw [HPL.out];omega);obtain ⟨u2,cu2⟩:=P9.has (i:=t*7+6) (by (try simp only [List.length_set]);rw [HPL.out];omega);obtain ⟨v0,cv0⟩:=Q9.has (i:=t*6+3) (by (try simp only [List.length_set]);rw [HQL.out];omega);obtain ⟨v1,cv1⟩:=Q9.has (i:=t*6+4) (by (try simp only [List.length_set]);rw [HQL.out];omega);obtain ⟨v2,cv2⟩:=Q9.has (i:=t*6+5) (by (try simp only [List.length_set]);rw [HQL.out];omega);have cfp:=P9.thawed;have cfq:=Q9.thawed))
          all_goals (
            have hmB:0<mB→wB.heap.size≤bB:=fun h=>by have:=hnB h;simp at this;omega
            have hmC:0<mC→wB.heap.size≤bC:=fun h=>by have:=hnC h;simp at this;omega
            have hfq:Below wB.heap.size wB w8:=(Below.x1 hb8)
            have hf9:Far (fun b=>b=p∨b=q) wB w8:=Far.of_below hfq
            have hfD:Far (fun b=>b=p∨b=q) wr w8:=hfB.trans hf9
            have j9:=i9.farS hf9 (fun h=>by have:=hm9 h;rintro (e|e) <;> omega)
            have jA:=iA.farS hf9 (fun h=>by have:=hmA h;rintro (e|e) <;> omega)
            have n9:0<m9→freshB w.heap.size p q b9:=fun h=>by have:=hm9 h;exact ⟨by omega,by omega,by omega⟩
            have nA:0<mA→freshB w.heap.size p q bA:=fun h=>by have:=hmA h;exact ⟨by omega,by omega,by omega⟩
            have nB:0<mB→freshB w.heap.size p q bB:=fun h=>by have:=hmB h;exact ⟨by omega,by omega,by omega⟩
            have nC:0<mC→freshB w.heap.size p q bC:=fun h=>by have:=hmC h;exact ⟨by omega,by omega,by omega⟩
            have HPP':=HPP.far hfD (fun b hb=>by rintro (e|e);exact hb.2.1 e;exact hb.2.2 e)
            have HQP':=HQP.far hfD (fun b hb=>by rintro (e|e);exact hb.2.1 e;exact hb.2.2 e)
            have HNEW:Hid (PartOf Form.lay w8 (freshB w.heap.size p q) (((((((cs.set (t*7) (.int .i64 l.kind)).set (t*7+1) (.int .i64 (stepTo l.W v.W d.W ln kp).rows)).set (t*7+2) (.int .i64 (stepTo l.W v.W d.W ln kp).cols)).set (t*7+3) (.slice a9 m9 k9)).set (t*7+4) (.int .i64 (stepTo l.B v.B d.B ln kp).rows)).set (t*7+5) (.int .i64 (stepTo l.B v.B d.B ln kp).cols)).set (t*7+6) (.slice aB mB kB)) (stepLays ls vs ds ln kp (t+1))):=Lib.hid (by
              rw [stepLays_succ,← HX.out.1,← HX.out.2.1,← HX.out.2.2]
              exact PartOf.snoc (PartOf.set (PartOf.set (PartOf.set (PartOf.set (PartOf.set (PartOf.set (PartOf.set HPP' (by rw [stepLays_length];exact Nat.le_refl _) _) (by rw [stepLays_length];show t*7≤_;omega) _) (by rw [stepLays_length];show t*7≤_;omega) _) (by rw [stepLays_length];show t*7≤_;omega) _) (by rw [stepLays_length];show t*7≤_;omega) _) (by rw [stepLays_length];show t*7≤_;omega) _) (by rw [stepLays_length];show t*7≤_;omega) _) (reads_lay (l:=stepLay l v d ln kp) n9 j9 nB iB) (by rw [stepLays_length];exact sets7 (by rw [HPL.out];omega) _ _ _ _ _ _ _))
            have HNEW':Hid (PartOf Form.grd w8 (freshB w.heap.size p q) ((((((es.set (t*6) (.int .i64 (stepSpeed l.W v.W d.W kp).rows)).set (t*6+1) (.int .i64 (stepSpeed l.W v.W d.W kp).cols)).set (t*6+2) (.slice aA mA kA)).set (t*6+3) (.int .i64 (stepSpeed l.B v.B d.B kp).rows)).set (t*6+4) (.int .i64 (stepSpeed l.B v.B d.B kp).cols)).set (t*6+5) (.slice aC mC kC)) (stepGrds ls vs ds kp (t+1))):=Lib.hid (by
              rw [stepGrds_succ,← HX.out.1,← HX.out.2.1,← HX.out.2.2]
              exact PartOf.snoc (PartOf.set (PartOf.set (PartOf.set (PartOf.set (PartOf.set (PartOf.set HQP' (by rw [stepGrds_length];exact Nat.le_refl _) _) (by rw [stepGrds_length];show t*6≤_;omega) _) (by rw [stepGrds_length];show t*6≤_;omega) _) (by rw [stepGrds_length];show t*6≤_;omega) _) (by rw [stepGrds_length];show t*6≤_;omega) _) (by rw [stepGrds_length];show t*6≤_;omega) _) (reads_grd (d:=stepGrd l v d kp) nA jA nC iC) (by rw [stepGrds_length];exact sets6 (by rw [HQL.out];omega) _ _ _ _ _ _))
            have HS:Hid (stepFaultTo ls vs ds (t+1)=0):=Lib.hid (by rw [stepFaultTo_succ HT.out,← HX.out.1,← HX.out.2.1,← HX.out.2.2];exact HFF.out)
            have hfa:Far (fun b=>b=p∨b=q) wA w8:=hfr.trans hfD
            clear hfD hfB hf9 hfr HPP HQP HPP' HQP' i9 iA iB iC j9 jA n9 nA nB nC MV8 MD8 B8 R8 y4 y6 y8
            go_wp2_with fail
            go_roundw
            case rel=>
              have hfe:∀ W,Far (fun b=>b=p∨b=q) w8 W→PartOf Form.lay W (freshB w.heap.size p q) (((((((cs.set (t*7) (.int .i64 l.kind)).set (t*7+1) (.int .i64 (stepTo l.W v.W d.W ln kp).rows)).set (t*7+2) (.int .i64 (stepTo l.W v.W d.W ln kp).cols)).set (t*7+3) (.slice a9 m9 k9)).set (t*7+4) (.int .i64 (stepTo l.B v.B d.B ln kp).rows)).set (t*7+5) (.int .i64 (stepTo l.B v.B d.B ln kp).cols)).set (t*7+6) (.slice aB mB kB)) (stepLays ls vs ds ln kp (t+1))∧PartOf Form.grd W (freshB w.heap.size p q) ((((((es.set (t*6) (.int .i64 (stepSpeed l.W v.W d.W kp).rows)).set (t*6+1) (.int .i64 (stepSpeed l.W v.W d.W kp).cols)).set (t*6+2) (.slice aA mA kA)).set (t*6+3) (.int .i64 (stepSpeed l.B v.B d.B kp).rows)).set (t*6+4) (.int .i64 (stepSpeed l.B v.B d.B kp).cols)).set (t*6+5) (.slice aC mC kC)) (stepGrds ls vs ds kp (t+1)):=fun W hW=>
                ⟨HNEW.out.far hW (fun b hb=>by rintro (e|e);exact hb.2.1 e;exact hb.2.2 e),HNEW'.out.far hW (fun b hb=>by rintro (e|e);exact hb.2.1 e;exact hb.2.2 e)⟩
              refine ⟨t+1,(((((((cs.set (t*7) (.int .i64 l.kind)).set (t*7+1) (.int .i64 (stepTo l.W v.W d.W ln kp).rows)).set (t*7+2) (.int .i64 (stepTo l.W v.W d.W ln kp).cols)).set (t*7+3) (.slice a9 m9 k9)).set (t*7+4) (.int .i64 (stepTo l.B v.B d.B ln kp).rows)).set (t*7+5) (.int .i64 (stepTo l.B v.B d.B ln kp).cols)).set (t*7+6) (.slice aB mB kB)),((((((es.set (t*6) (.int .i64 (stepSpeed l.W v.W d.W kp).rows)).set (t*6+1) (.int .i64 (stepSpeed l.W v.W d.W kp).cols)).set (t*6+2) (.slice aA mA kA)).set (t*6+3) (.int .i64 (stepSpeed l.B v.B d.B kp).rows)).set (t*6+4) (.int .i64 (stepSpeed l.B v.B d.B kp).cols)).set (t*6+5) (.slice aC mC kC)),by omega,by go_num,HS,?_,?_,Lib.hid (by simp only [List.length_set];exact HPL.out),(hfe _ ?_).1,?_,Lib.hid (by simp only [List.length_set];exact HQL.out),(hfe _ ?_).2⟩
              · (repeat (first|(with_reducible refine Far.drew ?_)|(with_reducible refine Far.drN ?_ _)|(refine Far.st ?_ (fun _=>by simp) _)));exact hfa
              · (repeat (first|(with_reducible refine Box.drew ?_)|(with_reducible refine Box.drewN ?_ _)|(with_reducible refine Box.set ?_ _ _)|(refine Box.far ?_ (by simp;omega) _)));exact P9
              · (repeat (first|(with_reducible refine Far.drew ?_)|(with_reducible refine Far.drN ?_ _)|(refine Far.st ?_ (fun _=>by simp) _)));exact Far.refl _ _
              · (repeat (first|(with_reducible refine Box.drew ?_)|(with_reducible refine Box.drewN ?_ _)|(with_reducible refine Box.set ?_ _ _)|(refine Box.far ?_ (by simp;omega) _)));exact Q9
              · (repeat (first|(with_reducible refine Far.drew ?_)|(with_reducible refine Far.drN ?_ _)|(refine Far.st ?_ (fun _=>by simp) _)));exact Far.refl _ _
            case measure=>simp [intOf];omega)
        · have HE:Hid (errV (fitsFault l v d)=.iface 36 (.int .i64 (fitsFault l v d))):=Lib.hid (errV_err hf)
          have HST:Hid (stepFaultTo ls vs ds n=fitsFault l v d):=Lib.hid (by
            have e:stepFaultTo ls vs ds (t+1)=fitsFault l v d:=by rw [stepFaultTo_succ HT.out,← HX.out.1,← HX.out.2.1,← HX.out.2.2]
            rw [stepFaultTo_stop (show t+1≤n by omega) (by rw [e];exact hf),e])
          have HFN:=Lib.hid hf
          clear hf
          go_wp2_with fail
          go_region_held3 (fun w'=>w'.cell? ⟨wr.heap.size,0,none⟩=some (.int .i64 l.kind)∧w'.cell? ⟨wr.heap.size,1,none⟩=some (.int .i64 l.W.rows)∧w'.cell? ⟨wr.heap.size,2,none⟩=some (.int .i64 l.W.cols)∧w'.cell? ⟨wr.heap.size,3,none⟩=some (.slice a3 n3 k3)∧w'.cell? ⟨wr.heap.size,4,none⟩=some (.int .i64 l.B.rows)∧w'.cell? ⟨wr.heap.size,5,none⟩=some (.int .i64 l.B.cols)∧w'.cell? ⟨wr.heap.size,6,none⟩=some (.slice a4 n4 k4)∧w'.cell? ⟨b1,o1+t*6,none⟩=some (.int .i64 v.W.rows)∧w'.cell? ⟨b1,o1+t*6+1,none⟩=some (.int .i64 v.W.cols)∧w'.cell? ⟨b1,o1+t*6+2,none⟩=some (.slice a5 n5 k5)∧w'.cell? ⟨b1,o1+t*6+3,none⟩=some (.int .i64 v.B.rows)∧w'.cell? ⟨b1,o1+t*6+4,none⟩=some (.int .i64 v.B.cols)∧w'.cell? ⟨b1,o1+t*6+5,none⟩=some (.slice a6 n6 k6)∧w'.cell? ⟨b2,o2+t*6,none⟩=some (.int .i64 d.W.rows)∧w'.cell? ⟨b2,o2+t*6+1,none⟩=some (.int .i64 d.W.cols)∧w'.cell? ⟨b2,o2+t*6+2,none⟩=some (.slice a7 n7 k7)∧w'.cell? ⟨b2,o2+t*6+3,none⟩=some (.int .i64 d.B.rows)∧w'.cell? ⟨b2,o2+t*6+4,none⟩=some (.int .i64 d.B.cols)∧w'.cell? ⟨b2,o2+t*6+5,none⟩=some (.slice a8 n8 k8)) (exact cells766 (t:=84) (by first|exact BX.k1 hb7|exact BX.k) (by repeat (first|(with_reducible first|exact MV|refine Cells6.alloc ?_ _|refine Cells6.drewN ?_ _|refine Cells6.drew ?_|(refine Cells6.far ?_ ?_ _;rotate_left 1;(first|(dsimp only;omega)|omega|(simp;omega)|simp))|refine Cells6.keep ?_ hb7)|exact MV)) (by repeat (first|(with_reducible first|exact MD|refine Cells6.alloc ?_ _|refine Cells6.drewN ?_ _|refine Cells6.drew ?_|(refine Cells6.far ?_ ?_ _;rotate_left 1;(first|(dsimp only;omega)|omega|(simp;omega)|simp))|refine Cells6.keep ?_ hb7)|exact MD))) ((go_at_call 108;go_must (refine (fits_any l v d _ _ _ _ _ _ _ _ _ _ _ _ _ _ _ _ _ _ _ _ _ _ _ _ _ _ _ _ _ _ _ (show IntsAt _ a3 n3 k3 b3 o3 l.W.cells from x3.k) (show IntsAt _ a4 n4 k4 b4 o4 l.B.cells from x4.k) (show IntsAt _ a5 n5 k5 b5 o5 v.W.cells from x5.k) (show IntsAt _ a6 n6 k6 b6 o6 v.B.cells from x6.k) (show IntsAt _ a7 n7 k7 b7 o7 d.W.cells from x7.k) (show IntsAt _ a8 n8 k8 b8 o8 d.B.cells from x8.k)).mono ?_);rw [HE.out];go_must (rintro e w7 ⟨rfl,hb7⟩)))
          have hbe:Below w.heap.size w w7:=(Below.y1 hb7 hbr)
          go_wp2
          refine bodyPost_ret (v:=.tuple #[.slice none 0 0,.slice none 0 0,.iface 36 (.int .i64 (fitsFault l v d))]) (by simp [results,Tryz.results92,go_sem]) rfl ⟨.slice none 0 0,.slice none 0 0,?_,hbe,?_,fun _=>⟨rfl,rfl⟩⟩
          · rw [HST.out,HE.out]
          · exact fun h=>absurd (HST.out.symm.trans h) HFN.out
      · obtain rfl:t=n:=by omega
        go_wp2
        refine bodyPost_ret (v:=.tuple #[.slice (some ⟨p,0,none⟩) t t,.slice (some ⟨q,0,none⟩) t t,.nilIface]) (by simp [results,Tryz.results92,go_sem]) rfl ⟨_,_,?_,hbr,fun _=>⟨some ⟨p,0,none⟩,p,some ⟨q,0,none⟩,q,rfl,rfl,?_,?_⟩,fun h=>absurd HT.out h⟩
        · rw [HT.out,errV_nil rfl]
        · exact HPP.row P1 (stepLays_length _ _ _ _ _ _) (by unfold maxLen;omega) (fun _=>by unfold newB;omega) (fun b hb _=>hb.1)
        · exact HQP.row Q1 (stepGrds_length _ _ _ _ _) (by unfold maxLen;omega) (fun _=>by unfold newB;omega) (fun b hb _=>hb.1)
end Go.Proofs.YtchngeagnlngaaaGreatDoor
end
