/- Texts joined: Zero1, Step3. -/
import Derived.Test.YtchngeagnlngaaaGreatDoorJ02
import Derived.Test.YtchngeagnlngaaaGreatDoorJ22
import Derived.Test.YtchngeagnlngaaaGreatDoorJ19
import Derived.Test.YtchngeagnlngaaaGreatDoorJ11
import Derived.Test.YtchngeagnlngaaaGreatDoorJ23
import Derived.Deep.AppendLies
import Derived.Deep.DeepCutAuto
import Derived.Deep.RegionHeld3
import Derived.IntWalk
set_option linter.unusedVariables false
set_option linter.unusedSimpArgs false
set_option linter.unusedSectionVars false
section
namespace Gal
open Go Go.RowKit
theorem zeros_box {w:World} {b n:Nat} {t:TypeId} (h:Box w b ((zeros n).map (Value.int .i64)) t) (hl:n≤maxLen):IntsAt w (some ⟨b,0,none⟩) n n b 0 (zeros n):=by
 refine ⟨zeros_length _,Nat.le_refl _,hl,fun _=>rfl,fun _=>h.lt,fun i hi=>?_⟩
 rw [Nat.zero_add,h.cell,List.getElem?_map]
 unfold ix
 rw [List.getElem?_eq_getElem (by rw [zeros_length];exact hi)]
 rfl
end Gal
namespace Go.Proofs.YtchngeagnlngaaaGreatDoor
open Go.RowKit Gal
set_option maxRecDepth 100000
set_option maxHeartbeats 1000000
theorem zeroOne_any (m:Mat) (a:Option Addr) (n k b o:Nat) (w:World) (x0:IntsAt w a n k b o m.cells) (hn:n*8≤140737488355328) :
  Calls Tryz.prog 84 #[.agg #[.int .i64 m.rows,.int .i64 m.cols,.slice a n k]] w fun e w'=>∃ v,e=.returned v∧MatNew w.heap.size w' v (zeroMat m)∧Below w.heap.size w w':=by
 obtain ⟨i0,hi,hz0,hz1,hz2⟩:=info_parts info_int
 have hmk:=fun W=>run_make_rowN (P:=Tryz.prog) 29 3 i0 _ Tryz.underlying29 hi hz0 .i64 .i64 n n (n:Int) (n:Int) rfl rfl (Nat.le_refl _) (by rw [hz2];omega) (by omega) W
 rw [hz1,Nat.mul_one] at hmk
 have hmc:(madeCells (Value.int .i64 0).cells n)=((zeros n).map (Value.int .i64)).toArray:=by
  apply Array.toList_inj.1
  show (madeCells #[Value.int .i64 0] n).toList=_
  rw [toList_madeCells_one]
  simp [zeros]
 rw [hmc] at hmk
 clear hmc
 have HN:Hid (n≤maxLen):=Lib.hid (by unfold maxLen;omega)
 have HL:Hid (zeroMat m=⟨m.rows,m.cols,zeros n⟩):=Lib.hid (by unfold zeroMat;rw [x0.len])
 clear x0 hn
 go_enter Tryz.func84,Tryz.ntmps84
 go_wp2_with fail
 obtain ⟨w0,hw0,B0,B1,hb0⟩:∃ w0,((w.alloc (.cells #[.int .i64 m.rows,.int .i64 m.cols,.slice a n k] 41)).alloc (.cells #[.int .i64 0,.int .i64 0,.slice none 0 0] 41))=w0 ∧
   Box w0 w.heap.size [.int .i64 m.rows,.int .i64 m.cols,.slice a n k] 41∧Box w0 (w.heap.size+1) [.int .i64 0,.int .i64 0,.slice none 0 0] 41∧Below w.heap.size w w0:=
  ⟨_,rfl,Box.x0,Box.x0,Below.x0⟩
 rw [hw0]
 clear hw0
 have hz:w.heap.size+1<w0.heap.size:=B1.lt
 have B0:=B0
 have B0c:=B0.cell
 have B0f:=B0.thawed
 have B0z:=B0.lt
 have B0k:=lt_add B0z
 have B1:=B1
 have B1c:=B1.cell
 have B1f:=B1.thawed
 have B1z:=B1.lt
 have B1k:=lt_add B1z
 go_region
 all_goals (
  go_wp2_with fail
  refine bodyPost_ret (v:=.agg #[.int .i64 m.rows,.int .i64 m.cols,.slice (some ⟨w0.heap.size,0,none⟩) n n]) (by simp [results,Tryz.results84,go_sem,B1c,B1z]) rfl ⟨_,rfl,?_,?_⟩
  ·rw [HL.out]
   exact MatNew.mk (fun _=>by omega) (zeros_box (Box.drew (Box.new' _ w0.heap.size _ _ (by simp))) HN.out)
  ·exact (Below.y0 hb0))
theorem info_grad:(Tryz.prog.info? 86).map (fun i=>(i.zero,i.size,i.bytes))=some (some (.agg #[.int .i64 0,.int .i64 0,.slice none 0 0,.int .i64 0,.int .i64 0,.slice none 0 0]),6,80):=by kernel_rfl
def Loose (w:World) (base n b:Nat):Prop:=0<n→base≤b∧∃ cs,w.heap[b]?=some (.cells cs 86)
theorem Loose.kept {w w':World} {base n b:Nat} (h:Loose w base n b) (hb:0<n→base≤b→b<w.heap.size→w'.heap[b]?=w.heap[b]?):Loose w' base n b:=fun hn=>by
 obtain ⟨h1,cs,h2⟩:=h hn
 exact ⟨h1,cs,by rw [hb hn h1 (heap_lt h2)];exact h2⟩
theorem Loose.keep {w w':World} {base n b:Nat} (h:Loose w base n b) (hb:Below w.heap.size w w'):Loose w' base n b:=h.kept fun _ _ hl=>hb.block b hl
theorem Loose.wide {w:World} {base B n b:Nat} (h:Loose w base n b) (hb:B≤base):Loose w B n b:=fun hn=>⟨Nat.le_trans hb (h hn).1,(h hn).2⟩
theorem Loose.farS {S:Nat→Prop} {w w':World} {base n b:Nat} (h:Loose w base n b) (hf:Far S w w') (hS:∀ c,base≤c→c<w.heap.size→¬ S c):Loose w' base n b:=h.kept fun _ h1 hl=>hf.block b hl (hS b h1 hl)
theorem OwnRow.loose {w:World} {base:Nat} {F:Nat→Prop} {a:Option Addr} {n k b:Nat} {xs:List Grd} (h:OwnRow Form.grd 86 w base F (.slice a n k) xs) (hb:0<n→a=some ⟨b,0,none⟩):Loose w base n b:=fun hn=>by
 obtain ⟨cs,⟨_,h2⟩,_⟩:=h.holds
 rcases h2 with ⟨e,h0⟩|⟨g,cap,cur,e,hg,hh,_⟩
 ·simp at e;omega
 ·rw [hb hn] at e
  simp at e
  obtain ⟨rfl,_⟩:=e
  exact ⟨hg,cur,hh⟩
theorem netZero_loose (ls:List Lay) (F:Nat→Prop) (a:Option Addr) (n k b o:Nat) (w:World) (h:RowAt Form.lay w F a n k b o ls) (hm:∀ i,i<n→(lx ls i).W.cells.length*8≤140737488355328∧(lx ls i).B.cells.length*8≤140737488355328) (hn:n*80≤140737488355328) :
    Calls Tryz.prog 57 #[.slice a n k] w fun e w'=>∃ a' k' b',e=.returned (.slice a' n k')∧Below w.heap.size w w'∧RowAt Form.grd w' (newB w.heap.size) a' n k' b' 0 (zeroNet ls)∧Loose w' w.heap.size n b':=by
  obtain ⟨i0,hi,hz0,hz1,hz2⟩:=info_parts info_grad
  have hl:=h.len
  have HM:=Lib.hid hm
  have HT:∀ t,t<n→(zeroNet ls).take (t+1)=(zeroNet ls).take t++[zeroGrd (lx ls t)]:=fun t ht=>by
    rw [List.take_add_one]
    congr 1
    rw [gx_get (by rw [zeroNet_length,hl];exact ht),zeroNet_gx]
    rfl
  have HTT:=Lib.hid HT
  have HLEN:Hid (∀ t,t≤n→((zeroNet ls).take t).length=t):=Lib.hid fun t ht=>by rw [List.length_take,zeroNet_length,hl];omega
  have HALL:Hid ((zeroNet ls).take n=zeroNet ls):=Lib.hid (by rw [← hl,← zeroNet_length];exact List.take_length)
  clear HT hm
  have HN:=Lib.hid hn
  have hn1:n≤9223372036854775807:=by omega
  clear hn
  go_enter Tryz.func57,Tryz.ntmps57
  go_wp2_with fail
  go_loopw [3,9] (fun s j wr=>∃ t:Nat,t≤n∧j=.int .i64 t∧OwnRow Form.grd 86 wr w.heap.size (newB w.heap.size) s ((zeroNet ls).take t)∧Below w.heap.size w wr) (fun _ j _=>n - (intOf j).toNat)
  case atStart=>exact ⟨0,Nat.zero_le _,rfl,OwnRow.nil _ _ _ _ _,Below.refl _ _⟩
  case round=>
    obtain ⟨t,ht,rfl,hown,hbr⟩:=hrel
    by_cases hlt:t<n
    · obtain rfl:=h.ptr (by omega)
      obtain ⟨a4,n4,k4,b4,o4,a5,n5,k5,b5,o5,c0,c1,c2,c3,c4,c5,c6,x4,x5⟩:=lay_cells (h.keep hbr) hlt
      have hs4:n4*8≤140737488355328:=by have:=(HM.out t hlt).1;rw [x4.len] at this;exact this
      have hs5:n5*8≤140737488355328:=by have:=(HM.out t hlt).2;rw [x5.len] at this;exact this
      obtain ⟨d,hd⟩:∃ d,d=lx ls t:=⟨_,rfl⟩
      rw [← hd] at c0 c1 c2 c4 c5 x4 x5
      have HD:=Lib.hid hd
      clear hd
      have BX:=Box.new wr [.int .i64 d.kind,.int .i64 d.W.rows,.int .i64 d.W.cols,.slice a4 n4 k4,.int .i64 d.B.rows,.int .i64 d.B.cols,.slice a5 n5 k5] 84
      have hal:Below wr.heap.size wr (wr.alloc (.cells #[.int .i64 d.kind,.int .i64 d.W.rows,.int .i64 d.W.cols,.slice a4 n4 k4,.int .i64 d.B.rows,.int .i64 d.B.cols,.slice a5 n5 k5] 84)):=Below.x0
      replace x4:=x4.keep hal
      replace x5:=x5.keep hal
      obtain ⟨av,cv,hsv⟩:=hown.slice
      rw [HLEN.out t (by omega)] at hsv
      subst hsv
      have HOB:=Lib.hid hown.base_le
      have hwz:=hbr.size
      go_wp2_with fail
      go_region_held3 (fun w'=>w'.cell? ⟨wr.heap.size,1,none⟩=some (.int .i64 d.W.rows)∧w'.cell? ⟨wr.heap.size,2,none⟩=some (.int .i64 d.W.cols)∧w'.cell? ⟨wr.heap.size,3,none⟩=some (.slice a4 n4 k4)∧w'.cell? ⟨wr.heap.size,4,none⟩=some (.int .i64 d.B.rows)∧w'.cell? ⟨wr.heap.size,5,none⟩=some (.int .i64 d.B.cols)∧w'.cell? ⟨wr.heap.size,6,none⟩=some (.slice a5 n5 k5))
        (first|exact box7_16 (t:=84) BX9|exact box7_16 (t:=84) (by repeat (first|(with_reducible first|exact BX|refine Box.alloc ?_ _|refine Box.drewN ?_ _|refine Box.drew ?_|refine Box.fx ?_ _|refine Box.keep ?_ hb8|refine Box.keep ?_ hb7)|exact BX))|exact box7_16 (t:=84) (by first|exact BX.k1 hb7|exact BX.k)|exact box7_16 (t:=84) BX.k)
        (first
        | ((refine at_oper ⟨some 24,_,_,_,_,_⟩ ?_;have hb8':=hb8;have q7:=hb7.size;have q8:=hb8.size;have q1:0<n7→wr.heap.size<b7:=(by intro h;have:=hn7 h;simp at this;omega);have q2:0<n8→wr.heap.size<b8:=(by intro h;have:=hn8 h;simp at this q7;omega);have q3:w.heap.size≤w8.heap.size:=(by simp at q7 q8;omega);have q4:(((zeroNet ls).take t).length+1)*80≤140737488355328:=(by rw [HLEN.out t (by omega)];have:=HN.out;omega);have q5:((zeroNet ls).take t).length+1≤maxLen:=(by rw [HLEN.out t (by omega)];have:=HN.out;unfold maxLen;omega);have q6:0<n7→newB w.heap.size b7∧(Value.slice av t cv).ownBlock≠some b7:=(fun h=>⟨by have:=q1 h;unfold newB;omega,fun e=>by have:=(HOB.out b7 e).2;have:=q1 h;omega⟩);have q6':0<n8→newB w.heap.size b8∧(Value.slice av t cv).ownBlock≠some b8:=(fun h=>⟨by have:=q2 h;unfold newB;omega,fun e=>by have:=(HOB.out b8 e).2;have:=q2 h;omega⟩);go_must (refine step_push rfl (.tmp 13) (.tmp 23) 23 rfl Form.grd w.heap.size (newB w.heap.size) 86 i0 (.agg #[.int .i64 0,.int .i64 0,.slice none 0 0,.int .i64 0,.int .i64 0,.slice none 0 0]) 80 Tryz.underlying23 hi hz0 hz1 hz2 (by rfl) (by decide) (.slice av t cv) ((zeroNet ls).take t) (by rfl) (OwnRow.keep hown (Below.x2 hb8 hb7)) w8.heap.size 1 [.int .i64 (zeroMat d.W).rows,.int .i64 (zeroMat d.W).cols,.slice a7 n7 k7,.int .i64 (zeroMat d.B).rows,.int .i64 (zeroMat d.B).cols,.slice a8 n8 k8] 86 (zeroGrd d) (by rfl) Box.x0 (reads_grd (d:=zeroGrd d) (F:=fun b=>newB w.heap.size b∧(Value.slice av t cv).ownBlock≠some b) (b:=b7) (b':=b8) (o:=o7) (o':=o8) q6 (by first|exact x7.k1 hb8|exact x7.k) q6' x8.k) q4 q5 (by simp;omega) _ rfl ?_);intro g1 cap1 w9 hown1 hgrow hat hlt1;have hb9:Below w.heap.size w w9:=Below.grown (by repeat (first|(with_reducible first|exact Below.refl _ _|exact hbr|refine Below.al ?_ _|refine Below.drN ?_ _|refine Below.drew ?_|refine Below.sx ?_ _|refine Below.go ?_ hb8|refine Below.go ?_ hb7)|exact Below.refl _ _|exact hbr)) hgrow (by simp;omega) (fun q hq=>(HOB.out q hq).1);have BX9:Box w9 wr.heap.size [.int .i64 d.kind,.int .i64 d.W.rows,.int .i64 d.W.cols,.slice a4 n4 k4,.int .i64 d.B.rows,.int .i64 d.B.cols,.slice a5 n5 k5] 84:=Box.grown (by repeat (first|(with_reducible first|exact BX|refine Box.alloc ?_ _|refine Box.drewN ?_ _|refine Box.drew ?_|refine Box.fx ?_ _|refine Box.keep ?_ hb8|refine Box.keep ?_ hb7)|exact BX)) hgrow (fun e=>by have:=(HOB.out wr.heap.size e.symm).2;omega)))
        | (go_at_call 84;have hb7':=hb7;go_must (refine (zeroOne_any d.B _ _ _ _ _ _ (show IntsAt _ a5 n5 k5 b5 o5 d.B.cells from (by first|exact x5.k1 hb7|exact x5.k)) hs5).mono ?_);go_must (rintro e w8 ⟨v8,rfl,⟨a8,n8,k8,b8,o8,rfl,hn8,x8⟩,hb8⟩))
        | (go_at_call 84;go_must (refine (zeroOne_any d.W _ _ _ _ _ _ (show IntsAt _ a4 n4 k4 b4 o4 d.W.cells from x4.k) hs4).mono ?_);go_must (rintro e w7 ⟨v7,rfl,⟨a7,n7,k7,b7,o7,rfl,hn7,x7⟩,hb7⟩)))
      go_wp2
      go_roundw
      case rel=>exact ⟨t+1,by omega,by go_num,by rw [HTT.out t hlt,← HD.out];rw [HLEN.out t (by omega)] at hown1;(first|exact hown1|(simp only [List.length_take,zeroNet_length,hl];rw [Nat.min_eq_left (by omega)];exact hown1)),hb9⟩
      case measure=>simp [intOf];omega
    · obtain rfl:t=n:=by omega
      obtain ⟨av,cv,b',rfl,hb',hrow⟩:=hown.row (G:=newB w.heap.size) (fun b h _=>h) (fun b h=>h)
      rw [HLEN.out t (Nat.le_refl _)] at hb' hrow
      rw [HALL.out] at hrow
      have HR:=Lib.hid hrow
      have HLO:=Lib.hid (OwnRow.loose (b:=b') (by rw [HLEN.out t (Nat.le_refl _)] at hown;exact hown) (fun hn=>hrow.ptr hn))
      have HL:=HLEN.out t (Nat.le_refl _)
      have HL':=Lib.hid HL
      clear hown hrow HL
      go_wp2
      rw [HL'.out]
      go_ret
      exact ⟨av,cv,b',rfl,hbr,HR.out,HLO.out⟩
theorem netZero_any (ls:List Lay) (F:Nat→Prop) (a:Option Addr) (n k b o:Nat) (w:World) (h:RowAt Form.lay w F a n k b o ls) (hm:∀ i,i<n→(lx ls i).W.cells.length*8≤140737488355328∧(lx ls i).B.cells.length*8≤140737488355328) (hn:n*80≤140737488355328) :
  Calls Tryz.prog 57 #[.slice a n k] w fun e w'=>∃ a' k' b',e=.returned (.slice a' n k')∧Below w.heap.size w w'∧RowAt Form.grd w' (newB w.heap.size) a' n k' b' 0 (zeroNet ls):=
 (netZero_loose ls F a n k b o w h hm hn).mono fun _ _ ⟨a',k',b',h1,h2,h3,_⟩=>⟨a',k',b',h1,h2,h3⟩
end Go.Proofs.YtchngeagnlngaaaGreatDoor
end
section
namespace Gal
open Go Go.RowKit
theorem fault_len {m:Mat} (h:m.fault=0):m.cells.length≤288∧(m.cells.length:Int)=m.rows*m.cols:=by
 obtain ⟨R,C,hr,hc,hR,hC,hl,_⟩:=matFault_ok h
 refine ⟨?_,by rw [hr,hc,hl];push_cast;rfl⟩
 rw [hl]
 exact Nat.le_trans (Nat.mul_le_mul hR hC) (by decide)
theorem fits_lens {l:Lay} {v d:Grd} (h:fitsFault l v d=0):l.W.cells.length≤288∧l.B.cells.length≤288∧v.W.cells.length=l.W.cells.length∧v.B.cells.length=l.B.cells.length∧d.W.cells.length=l.W.cells.length∧d.B.cells.length=l.B.cells.length:=by
 obtain ⟨h0,h1,h2,h3,h4,⟨h5,h5'⟩,⟨h6,h6'⟩,⟨h7,h7'⟩,⟨h8,h8'⟩⟩:=fitsFault_ok h
 obtain ⟨_,_,hW,hB,_⟩:=Lay.fault_ok h0
 have e0:=fault_len hW
 have e1:=fault_len hB
 have e2:=fault_len h1
 have e3:=fault_len h2
 have e4:=fault_len h3
 have e5:=fault_len h4
 rw [h5,h5'] at e2
 rw [h6,h6'] at e3
 rw [h7,h7'] at e4
 rw [h8,h8'] at e5
 omega
end Gal
namespace Go.Proofs.YtchngeagnlngaaaGreatDoor
open Go.RowKit Gal
set_option maxRecDepth 100000
set_option maxHeartbeats 2000000
theorem info_layer:(Tryz.prog.info? 84).map (fun i=>(i.zero,i.size,i.bytes))=some (some (.agg #[.int .i64 0,.int .i64 0,.int .i64 0,.slice none 0 0,.int .i64 0,.int .i64 0,.slice none 0 0]),7,88):=by kernel_rfl
section
variable (ls:List Lay) (vs ds:List Grd) (ln kp:Int) (F G H:Nat→Prop) (a0 a1 a2:Option Addr) (n n1 n2 k0 k1 k2 b0 b1 b2 o0 o1 o2:Nat) (w:World) (h0:RowAt Form.lay w F a0 n k0 b0 o0 ls) (h1:RowAt Form.grd w G a1 n1 k1 b1 o1 vs) (h2:RowAt Form.grd w H a2 n2 k2 b2 o2 ds)
include h0 h1 h2
theorem stepDo_range (hb:ln<0∨256<ln∨kp<0∨256<kp) :
    Calls Tryz.prog 92 #[.slice a0 n k0,.slice a1 n1 k1,.slice a2 n2 k2,.agg #[.int .i64 ln,.int .i64 kp]] w fun e w'=>∃ v d,e=.returned (.tuple #[v,d,errV (stepFault ls vs ds ln kp)])∧Below w.heap.size w w' ∧
          (stepFault ls vs ds ln kp=0→∃ a' b' a'' b'',v=.slice a' n n∧d=.slice a'' n n∧RowAt Form.lay w' (newB w.heap.size) a' n n b' 0 (stepLays ls vs ds ln kp n)∧RowAt Form.grd w' (newB w.heap.size) a'' n n b'' 0 (stepGrds ls vs ds kp n)) ∧
          (stepFault ls vs ds ln kp≠0→v=.slice none 0 0∧d=.slice none 0 0)
  := by
  have hf:stepFault ls vs ds ln kp=1:=by unfold stepFault;rw [if_pos hb]
  rw [hf,errV_err (by decide)]
  clear hf h0 h1 h2
  by_cases q1:ln<0
  · clear hb
    have g1:decide (ln<0)=true:=by simp [q1]
    go_enter Tryz.func92,Tryz.ntmps92
    go_wp2
    refine bodyPost_ret (v:=.tuple #[.slice none 0 0,.slice none 0 0,.iface 36 (.int .i64 1)]) (by simp [results,Tryz.results92,go_sem]) rfl ⟨.slice none 0 0,.slice none 0 0,?_,?_,?_,?_⟩
    · rfl
    · exact Below.x0
    · exact fun h=>absurd h (by decide)
    · exact fun _=>⟨rfl,rfl⟩
  · have g1:decide (ln<0)=false:=by simp;omega
    by_cases q2:256<ln
    · clear hb q1
      have g2:decide (256<ln)=true:=by simp [q2]
      go_enter Tryz.func92,Tryz.ntmps92
      go_wp2
      refine bodyPost_ret (v:=.tuple #[.slice none 0 0,.slice none 0 0,.iface 36 (.int .i64 1)]) (by simp [results,Tryz.results92,go_sem]) rfl ⟨.slice none 0 0,.slice none 0 0,?_,?_,?_,?_⟩
      · rfl
      · exact Below.x0
      · exact fun h=>absurd h (by decide)
      · exact fun _=>⟨rfl,rfl⟩
    · have g2:decide (256<ln)=false:=by simp;omega
      by_cases q3:kp<0
      · clear hb q1 q2
        have g3:decide (kp<0)=true:=by simp [q3]
        go_enter Tryz.func92,Tryz.ntmps92
        go_wp2
        refine bodyPost_ret (v:=.tuple #[.slice none 0 0,.slice none 0 0,.iface 36 (.int .i64 1)]) (by simp [results,Tryz.results92,go_sem]) rfl ⟨.slice none 0 0,.slice none 0 0,?_,?_,?_,?_⟩
        · rfl
        · exact Below.x0
        · exact fun h=>absurd h (by decide)
        · exact fun _=>⟨rfl,rfl⟩
      · have g3:decide (kp<0)=false:=by simp;omega
        have g4:decide (256<kp)=true:=by simp;omega
        clear hb q1 q2 q3
        go_enter Tryz.func92,Tryz.ntmps92
        go_wp2
        refine bodyPost_ret (v:=.tuple #[.slice none 0 0,.slice none 0 0,.iface 36 (.int .i64 1)]) (by simp [results,Tryz.results92,go_sem]) rfl ⟨.slice none 0 0,.slice none 0 0,?_,?_,?_,?_⟩
        · rfl
        · exact Below.x0
        · exact fun h=>absurd h (by decide)
        · exact fun _=>⟨rfl,rfl⟩
theorem stepDo_sizes (hb:¬ (ln<0∨256<ln∨kp<0∨256<kp)) (hs:12<n∨n1≠n∨n2≠n) :
    Calls Tryz.prog 92 #[.slice a0 n k0,.slice a1 n1 k1,.slice a2 n2 k2,.agg #[.int .i64 ln,.int .i64 kp]] w fun e w'=>∃ v d,e=.returned (.tuple #[v,d,errV (stepFault ls vs ds ln kp)])∧Below w.heap.size w w' ∧
          (stepFault ls vs ds ln kp=0→∃ a' b' a'' b'',v=.slice a' n n∧d=.slice a'' n n∧RowAt Form.lay w' (newB w.heap.size) a' n n b' 0 (stepLays ls vs ds ln kp n)∧RowAt Form.grd w' (newB w.heap.size) a'' n n b'' 0 (stepGrds ls vs ds kp n)) ∧
          (stepFault ls vs ds ln kp≠0→v=.slice none 0 0∧d=.slice none 0 0)
  := by
  have hl0:=h0.len
  have hl1:=h1.len
  have hl2:=h2.len
  have hm0:=h0.max
  have hm1:=h1.max
  have hm2:=h2.max
  unfold maxLen at hm0 hm1 hm2
  have g1:decide (ln<0)=false:=by simp;omega
  have g2:decide (256<ln)=false:=by simp;omega
  have g3:decide (kp<0)=false:=by simp;omega
  have g4:decide (256<kp)=false:=by simp;omega
  by_cases q1:12<n
  · have hf:stepFault ls vs ds ln kp=3:=by unfold stepFault;rw [if_neg hb,if_pos (by omega)]
    rw [hf,errV_err (by decide)]
    clear hf h0 h1 h2 hb hl0 hl1 hl2 hs
    go_enter Tryz.func92,Tryz.ntmps92
    go_wp2
    refine bodyPost_ret (v:=.tuple #[.slice none 0 0,.slice none 0 0,.iface 36 (.int .i64 3)]) (by simp [results,Tryz.results92,go_sem]) rfl ⟨.slice none 0 0,.slice none 0 0,?_,?_,?_,?_⟩
    · rfl
    · exact Below.x0
    · exact fun h=>absurd h (by decide)
    · exact fun _=>⟨rfl,rfl⟩
  · have hf:stepFault ls vs ds ln kp=2:=by unfold stepFault;rw [if_neg hb,if_neg (by omega),if_pos (by omega)]
    rw [hf,errV_err (by decide)]
    clear hf h0 h1 h2 hb hl0 hl1 hl2
    by_cases q2:n1=n
    · have q3:n2≠n:=by omega
      have g5:((n1:Int) != (n:Int))=false:=by simp [q2]
      have g6:((n2:Int) != (n:Int))=true:=by simp;omega
      clear hs q2 q3
      go_enter Tryz.func92,Tryz.ntmps92
      go_wp2
      refine bodyPost_ret (v:=.tuple #[.slice none 0 0,.slice none 0 0,.iface 36 (.int .i64 2)]) (by simp [results,Tryz.results92,go_sem]) rfl ⟨.slice none 0 0,.slice none 0 0,?_,?_,?_,?_⟩
      · rfl
      · exact Below.x0
      · exact fun h=>absurd h (by decide)
      · exact fun _=>⟨rfl,rfl⟩
    · have g5:((n1:Int) != (n:Int))=true:=by simp;omega
      clear hs q2
      go_enter Tryz.func92,Tryz.ntmps92
      go_wp2
      refine bodyPost_ret (v:=.tuple #[.slice none 0 0,.slice none 0 0,.iface 36 (.int .i64 2)]) (by simp [results,Tryz.results92,go_sem]) rfl ⟨.slice none 0 0,.slice none 0 0,?_,?_,?_,?_⟩
      · rfl
      · exact Below.x0
      · exact fun h=>absurd h (by decide)
      · exact fun _=>⟨rfl,rfl⟩
end
end Go.Proofs.YtchngeagnlngaaaGreatDoor
end
