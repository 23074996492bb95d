/- Texts joined: Back1, Range, Round, BackSt. -/
import Derived.Test.YtchngeagnlngaaaGreatDoorJ22
import Derived.Test.YtchngeagnlngaaaGreatDoorJ29
import Derived.Test.YtchngeagnlngaaaGreatDoorJ02
import Derived.RangeFuncWrites
import Derived.RangeFuncCalls
import Derived.RangeFuncBound
import Derived.RangeFuncNested
import Derived.Below
import Derived.OrdersIn
import Derived.OrdersHeld
import Derived.Deep.RegionHeld
import Derived.Test.YtchngeagnlngaaaGreatDoorJ06
import Derived.Test.YtchngeagnlngaaaGreatDoorJ18
import Derived.Test.YtchngeagnlngaaaGreatDoorJ08
import Derived.Test.YtchngeagnlngaaaGreatDoorJ23
set_option linter.unusedVariables false
set_option linter.unusedSimpArgs false
set_option linter.unusedSectionVars false
section
namespace Gal
open Go
def cellV (w:World) (b i:Nat):Value:=(w.cell? ⟨b,i,none⟩).getD undef
theorem cellV_eq {w:World} {b i:Nat} {v:Value} (h:w.cell? ⟨b,i,none⟩=some v):cellV w b i=v:=by unfold cellV;rw [h];rfl
def layCV (w:World) (b o i:Nat):Value:=.agg #[cellV w b (o+i*7),cellV w b (o+i*7+1),cellV w b (o+i*7+2),cellV w b (o+i*7+3),cellV w b (o+i*7+4),cellV w b (o+i*7+5),cellV w b (o+i*7+6)]
theorem layCV_eq {w:World} {b o i:Nat} {v0 v1 v2 v3 v4 v5 v6:Value} (h0:w.cell? ⟨b,o+i*7,none⟩=some v0) (h1:w.cell? ⟨b,o+i*7+1,none⟩=some v1) (h2:w.cell? ⟨b,o+i*7+2,none⟩=some v2) (h3:w.cell? ⟨b,o+i*7+3,none⟩=some v3)
  (h4:w.cell? ⟨b,o+i*7+4,none⟩=some v4) (h5:w.cell? ⟨b,o+i*7+5,none⟩=some v5) (h6:w.cell? ⟨b,o+i*7+6,none⟩=some v6):layCV w b o i=.agg #[v0,v1,v2,v3,v4,v5,v6]:=by
 unfold layCV
 rw [cellV_eq h0,cellV_eq h1,cellV_eq h2,cellV_eq h3,cellV_eq h4,cellV_eq h5,cellV_eq h6]
end Gal
namespace Go.Proofs.YtchngeagnlngaaaGreatDoor
open Go.RowKit Go.Shelf Gal
attribute [local go_sem] Oper.semAt_some
set_option maxRecDepth 100000
set_option maxHeartbeats 2000000
theorem back1_stops (fn:Nat) (hn:1≤fn) (q:Nat) (S:Nat→Prop) (ls:List Lay) (F:Nat→Prop) (a:Option Addr) (n k b o:Nat) (w:World)
  (hq:Box w q [.slice a n k] 22) (hSq:¬ S q) (h:RowAt Form.lay w F a n k b o ls) (hSb:0<n→¬ S b) :
  SeqStopsK Fence.wide fn Tryz.prog 104 #[.pointer (some ⟨q,0,none⟩)] (fun x:Fin n=>#[Value.int .i64 x.val,layCV w b o x.val]) (Far S)
   (fun l=>l.map (fun x=>x.val)=descs n n) (fun l=>∃ t,t<n∧l.map (fun x=>x.val)=descs n (t+1)) n w:=fun l J Jx W hW _ _ hY hJ0=>by
 have hmx:=h.max
 unfold maxLen at hmx
 have Bq:=hq.keep hW
 have HY:=Lib.hid hY
 clear hY
 have Bqc:=Bq.cell 0
 refine callsIn_of_wp Tryz.func104 rfl trivial ?_ rfl
 simp only [Tryz.ntmps104,List.size_toArray,List.length_cons,List.length_nil,Nat.reduceAdd,Nat.reduceSub,Array.replicate_succ,Array.replicate_zero,List.push_toArray,List.append_toArray,List.nil_append,List.cons_append]
 gi_wp2
 gi_loopw [3] (fun i wr=>∃ t:Nat,t≤n∧i=.int .i64 ((n:Int) - 1 - t)∧(∃ pre:List (Fin n),pre.map (fun x=>x.val)=descs n t∧J pre wr)∧Far S W wr) (fun i _=>(intOf i+1).toNat)
 case atStart=>exact ⟨0,Nat.zero_le _,by simp,⟨[],rfl,hJ0⟩,Far.refl _ _⟩
 case round=>
  obtain ⟨t,ht,rfl,⟨pre,hpre,hJs⟩,hnx⟩:=hrel
  have HPRE:=Lib.hid hpre
  have hpl:pre.length=t:=by have:=congrArg List.length hpre;rw [List.length_map,descs_length] at this;exact this
  have HPL:=Lib.hid hpl
  clear hpre hpl
  have HJ:=Lib.hid hJs
  clear hJs
  have Bqr:=(Bq.farS hnx hSq).cell 0
  by_cases hlt:t<n
  ·have hN:0<n:=by omega
   obtain rfl:=h.ptr hN
   obtain ⟨m,hm⟩:∃ m:Nat,n=t+1+m:=⟨n - (t+1),by omega⟩
   have hmn:m<n:=by omega
   have hmI:(n:Int) - 1 - t=(m:Int):=by omega
   have hd:n - 1 - t=m:=by omega
   obtain ⟨a4,n4,k4,b4,o4,a5,n5,k5,b5,o5,c0,c1,c2,c3,c4,c5,c6,x4,x5⟩:=lay_cells h hmn
   have hV:=layCV_eq c0 c1 c2 c3 c4 c5 c6
   have hkeep:∀ {i:Nat} {v:Value},w.cell? ⟨b,i,none⟩=some v→wr.cell? ⟨b,i,none⟩=some v:=fun {i} {v} e=>(World.cell?_of_block (a:=⟨b,i,none⟩) (hnx.block b (Nat.lt_of_lt_of_le (h.lt hN) hW.size) (hSb hN))).trans ((hW.cell (p:=⟨b,i,none⟩) (h.lt hN)).trans e)
   replace c0:=hkeep c0
   replace c1:=hkeep c1
   replace c2:=hkeep c2
   replace c3:=hkeep c3
   replace c4:=hkeep c4
   replace c5:=hkeep c5
   replace c6:=hkeep c6
   obtain ⟨fn,tmps,assign,body,hy',hR⟩:=HY.out _ (⟨m,hmn⟩:Fin n) wr HJ.out (by rw [HPL.out];exact hlt)
   have HNX:Hid ((pre++[(⟨m,hmn⟩:Fin n)]).map (fun x=>x.val)=descs n (t+1)):=Lib.hid (by rw [List.map_append,HPRE.out,descs_succ,hd];rfl)
   dsimp only at hy'
   rw [hV] at hy'
   have HR:=Lib.hid hR
   have HD:=Lib.hid hd
   have HM:=Lib.hid hm
   have h0m:(0:Int)≤(m:Int):=by omega
   have hlm:(m:Int)<(n:Int):=by omega
   rw [hmI]
   clear hR hkeep hV x4 x5 hd hm hmI
   gi_wp2
   refine HR.out.mono ?_
   rintro e W3 (⟨rfl,hJ3,hk3⟩|⟨rfl,hJx3⟩)
   ·have HJ3:=Lib.hid hJ3
    clear hJ3
    gi_wp2
    go_roundw
    case rel=>exact ⟨t+1,by omega,by congr 1;have:=HM.out;omega,⟨_,HNX.out,HJ3.out⟩,hnx.trans hk3⟩
    case measure=>simp [intOf]
   ·gi_wp2
    refine bodyPost_ret (results_none rfl _ _ _) rfl ?_
    exact ⟨⟨_,rfl⟩,.inr ⟨_,⟨t,hlt,HNX.out⟩,hJx3⟩⟩
  ·have htn:t=n:=by omega
   have hmI:(n:Int) - 1 - t = -1:=by omega
   rw [hmI]
   have HN2:Hid (pre.map (fun x=>x.val)=descs n n):=Lib.hid (by rw [HPRE.out,htn])
   clear hmI htn
   gi_wp2
   go_end0
   exact ⟨⟨_,rfl⟩,.inl ⟨_,HN2.out,HJ.out⟩⟩
end Go.Proofs.YtchngeagnlngaaaGreatDoor
end
section
namespace Gal
open Go Go.RowKit
def Book (k:Nat) (r:Loop) (W:World):Prop:=W.heap[k+1]?=some (.loop r)∧W.heap[k]?=some (.deferred (some []))
theorem Book.grown {k:Nat} {r:Loop} {A B:World} {row:Option Nat} (h:Book k r A) (hg:A.grownBy B row) (hr:∀ j,row=some j→∃ o:Obj,A.heap[j]?=some o∧o.isWalk=true):Book k r B:=
 ⟨(grownBy_keeps hg hr h.1 rfl).trans h.1,(grownBy_keeps hg hr h.2 rfl).trans h.2⟩
theorem Book.put {k:Nat} {r:Loop} {W:World} (h:Book k r W) (r':Loop):Book k r' (W.putObj (k+1) (.loop r')):=
 ⟨World.putObj_heap_same (Array.getElem?_eq_some_iff.1 h.1).1,(World.putObj_heap_other (by omega)).trans h.2⟩
theorem Book.kept {k:Nat} {r:Loop} {A B:World} (h:Book k r A) (hk:KeepsFrom k A B):Book k r B:=⟨hk.same _ _ (by omega) h.1 rfl,hk.same _ _ (Nat.le_refl _) h.2 rfl⟩
def roundEnds {α:Type} (B:Nat) (Kp:World→World→Prop) (I Ix:List α→World→Prop) (xs:List α) (W:World):Exit→Act→World→Prop
 | .normal,_,W'=>KeepsFrom B W W'∧Kp W W'∧I xs W'
 | .ret,_,W'=>KeepsFrom B W W'∧Ix xs W'
 | _,_,_=>False
section
variable {F:Fence} {n:Nat} {P:Program}
theorem wpIn_range_boxed {α:Type} {g:Operand} {ps:Array Tmp} {assign body:Code} {Q:Exit→Act→World→Prop} {a:Act} {w:World}
  (hro:F.round=none) (h1:1≤n) {gf:Nat} {lb:Array Value} (hg:a.eval g=.func (.func gf) #[] lb) (hFg:F.fn gf) (eg:∀ args w,(callFunc gf args).run P w=.ok (.enter gf args) w)
  {encs:α→Array Value} {Kp:World→World→Prop} {S Sp:List α→Prop} {N:Nat} {w0:World} (hseq:SeqStopsK F (n - 1) P gf lb encs Kp S Sp N w0)
  (hKt:∀ {A B C:World},Kp A B→Kp B C→Kp A C) (hKb:∀ (W:World) (l:Nat) (o o':Obj),w.heap.size≤l→W.heap[l]?=some o→o.isCells=false→o.isWalk=false→Kp W (W.putObj l o')) (hb0:Below w0.heap.size w0 w) (hps:∀ x,(encs x).size=ps.size)
  (I Ix:List α→World→Prop) (IA:α→Act→List α→World→Prop) (hI:OwnFrom w.heap.size I) (hIx:OwnFrom w.heap.size Ix) (hIA:∀ x b,OwnFrom w.heap.size (IA x b)) (h0:I [] w)
  (hassign:∀ (l:Nat) (pre:List α) (x:α) (W:World),I pre W→pre.length<N →
   assign.wpIn (F.inRound l) (n - 1 - 1) P (Exit.then (fun b W'=>KeepsFrom w.heap.size W W'∧Kp W W'∧IA x b pre W') (fun _ _ _=>False)) { tmps:=(ps.zip (encs x)).foldl (fun t (p,v)=>t.setIfInBounds p v) a.tmps,defers:=[] } W)
  (hbody:∀ (l:Nat) (pre:List α) (x:α) (b:Act) (W:World),IA x b pre W→pre.length<N→body.wpIn (F.inRound l) (n - 1 - 1) P (roundEnds w.heap.size Kp I Ix (pre++[x]) W) b W)
  (hdone:∀ (D:Nat) (xs:List α) (W:World),w.heap.size≤D→S xs→I xs W→W.heap[D]?=some (.deferred (some []))→Q .normal { a with defers:={ target:=.collected D,args:=#[] } :: a.defers } W)
  (hstop:∀ (D:Nat) (pre:List α) (W:World),w.heap.size≤D→Sp pre→Ix pre W→W.heap[D]?=some (.deferred (some []))→Code.ret.wpIn F n P Q { a with defers:={ target:=.collected D,args:=#[] } :: a.defers } W) :
  (Code.rangeFunc g ps assign body).wpIn F n P Q a w:=by
 refine wpIn_rangeFunc fun fn hfn=>?_
 rw [hro]
 obtain ⟨rc,hrc⟩:∃ rc:LoopState→Option Code→Loop,rc=fun st pe=>{ state:=st,pending:=pe,fn,tmps:=a.tmps,params:=ps,assign,body,defers:=w.heap.size }:=⟨_,rfl⟩
 obtain ⟨W1,hW1⟩:∃ W1,(w.alloc (.deferred (some []))).alloc (.loop (rc .ready none))=W1:=⟨_,rfl⟩
 have hz1:W1.heap.size=w.heap.size+1+1:=by rw [← hW1];simp
 have bk1:Book w.heap.size (rc .ready none) W1:=by
  rw [← hW1]
  refine ⟨?_,(Below.heap_alloc _ _ _ (by simp)).trans (World.alloc_heap_new w _)⟩
  have:=World.alloc_heap_new (w.alloc (.deferred (some []))) (.loop (rc .ready none))
  rwa [World.size_alloc] at this
 have i1:I [] W1:=by rw [← hW1];exact hI.alloc _ (hI.alloc _ h0)
 have b1:Below w0.heap.size w0 W1:=by rw [← hW1];exact hb0.trans ((((Below.refl _ w).alloc (Nat.le_refl _) _).alloc (by simp) _).mono hb0.size)
 refine ⟨w.heap.size+1,[{ target:=.collected w.heap.size,args:=#[] }],W1,{ target:=.fn (.func gf) lb,args:=#[.func (.yield (w.heap.size+1)) #[] #[]] },W1,gf,#[.func (.yield (w.heap.size+1)) #[] #[]]++lb,W1,?_,?_,?_,?_,fun _=>h1,?_⟩
 ·rw [← hW1,hrc];exact run_enterLoop_outer _ _ _ _ _
 ·simp only [resolve,hg];simp [go_sem]
 ·intro f' hf';simp [Target.leads] at hf';subst hf';exact hFg
 ·simp [invoke,go_sem,eg]
 have far:∀ {A:World} {row:Option Nat},(∀ r,row=some r→W1.heap.size≤r∧∃ o:Obj,A.heap[r]?=some o∧o.isWalk=true)→∀ r,row=some r→w.heap.size≤r∧∃ o:Obj,A.heap[r]?=some o∧o.isCells=false:=fun hr r e=>by
  obtain ⟨hB,o,ho,hw⟩:=hr r e
  exact ⟨by omega,o,ho,Obj.not_cells_of_walk hw⟩
 refine (hseq (w.heap.size+1) (fun pre W=>I pre W∧Book w.heap.size (rc .ready none) W) (fun pre W=>Ix pre W∧Book w.heap.size (rc .done (some .ret)) W) W1 b1
  (fun s A B row hs hg' hr=>⟨hI s A B row hs.1 hg' (far hr),hs.2.grown hg' (fun r e=>(hr r e).2)⟩)
  (fun s A B row hs hg' hr=>⟨hIx s A B row hs.1 hg' (far hr),hs.2.grown hg' (fun r e=>(hr r e).2)⟩) ?_ ⟨i1,bk1⟩).mono ?_
 ·rintro pre x W ⟨hi,bk⟩ hlen
  have hy:=run_yield (P:=P) (args:=encs x) bk.1 (by rw [hrc];exact hps x)
  rw [hrc] at hy
  refine ⟨fn,_,assign,body,hy,roundIn_of_wpIn hfn (wpIn_mono (hassign _ pre x W hi hlen) ?_)⟩
  rintro e b W' hp
  cases e with
  | normal=>
   obtain ⟨k1,p1,ia⟩:=hp
   have bk':=bk.kept k1
   refine ⟨_,run_beginRound bk'.1 (by rw [hrc]),?_⟩
   have bk2:=bk'.put { rc .ready none with state:=.busy }
   refine wpIn_mono (hbody _ pre x b _ ((hIA x b).putObj _ ia (by omega) bk'.1 rfl) hlen) ?_
   have p2:Kp W' _:=hKb W' (w.heap.size+1) _ (.loop { rc .ready none with state:=.busy }) (by omega) bk'.1 rfl rfl
   have fin:∀ (jump:Option Code) (W3:World),Book w.heap.size { rc .ready none with state:=.busy } W3 →
     (Instr.endRound (w.heap.size+1) jump).run P W3=.ok (.bool jump.isNone) (W3.putObj (w.heap.size+1) (.loop (rc (if jump.isNone then .ready else .done) jump))):=fun jump W3 b3=>by
    have:=run_endRound (P:=P) jump b3.1
    rw [hrc] at this ⊢
    exact this
   rintro e3 a3 W3 hq
   cases e3 with
   | normal=>
    obtain ⟨k3,p3,i3⟩:=hq
    have b3:=bk2.kept k3
    exact ⟨_,_,fin none W3 b3,.inl ⟨rfl,⟨hI.putObj _ i3 (by omega) b3.1 rfl,b3.put _⟩,hKt p1 (hKt p2 (hKt p3 (hKb _ _ _ _ (by omega) b3.1 rfl rfl)))⟩⟩
   | ret=>
    obtain ⟨k3,i3⟩:=hq
    have b3:=bk2.kept k3
    exact ⟨_,_,fin (some .ret) W3 b3,.inr ⟨rfl,hIx.putObj _ i3 (by omega) b3.1 rfl,b3.put _⟩⟩
   | _=>exact hq.elim
  | _=>exact hp.elim
 ·rintro e W2 ⟨⟨v,rfl⟩,(⟨xs,hS,hi,bk⟩|⟨pre,hSp,hi,bk⟩)⟩
  ·have hr:=run_endLoop (P:=P) bk.1 (by rw [hrc];simp)
   rw [hrc] at hr
   exact ⟨none,_,hr,hdone _ xs _ (Nat.le_refl _) hS (hI.putObj _ hi (by omega) bk.1 rfl) ((World.putObj_heap_other (by omega)).trans bk.2)⟩
  ·have hr:=run_endLoop (P:=P) bk.1 (by rw [hrc];simp)
   rw [hrc] at hr
   exact ⟨some .ret,_,hr,hstop _ pre _ (Nat.le_refl _) hSp (hIx.putObj _ hi (by omega) bk.1 rfl) ((World.putObj_heap_other (by omega)).trans bk.2)⟩
end
end Gal
end
section
namespace Gal
open Go
section
variable {n l:Nat} {P:Program} {ops:Array Oper} {Q:Exit→Act→World→Prop}
theorem rowsIn_round {row:String} {args:Array Value} {w:World} {R:Value→World→Prop} (h:Rows P row args w R):RowsIn (Fence.wide.inRound l) n P row args w R:=fun c cs _=>by
 obtain ⟨v,w',r,s⟩:=h c cs
 exact ⟨v,w',r,stepsIn_wide.2 s⟩
theorem oper_round {o:Oper} {a:Act} {w:World} {K:Act→World→Prop} (hd:∀ c,o.op≠.defer c) (h:o.wp P a w K Q):o.wpIn (Fence.wide.inRound l) n P a w K Q:=by
 refine ⟨fun f _=>trivial,?_⟩
 rw [Oper.semAt_eq _ _ _ hd]
 unfold Oper.wp at h
 generalize (execOp a.eval o).run P w=r at h ⊢
 cases r with
 | ok nx w'=>
  cases nx with
  | enter f args=>
   refine ⟨fun hh=>by simp [Fence.wide,Fence.inRound] at hh,CallsIn.inRound l (callsIn_wide.2 (h.mono ?_))⟩
   intro e w'' he
   cases e <;> exact he
  | row row args=>exact ⟨fun hh=>by simp [Fence.wide,Fence.inRound] at hh,rowsIn_round h⟩
  | value v=>exact h
  | skip=>exact h
  | defer d=>exact h
  | _=>exact h.elim
 | halt hl w'=>
  cases hl <;> first|exact h|exact h.elim
theorem wpAny_round (hd:∀ (j:Nat) (o:Oper) c,ops[j]?=some o→o.op≠.defer c) (hQ:¬ LetsOut Q) (md:Region.Mode) :
  ∀ (fuel:Nat) (listed:Array Bool) (a:Act) (w:World),wpAny P md ops Q fuel listed a w→wpAnyIn (Fence.wide.inRound l) n P md ops Q fuel listed a w
 | 0,_,_,_,h=>h
 | fuel+1,listed,a,w,h=>⟨h.1,fun i hi=>by
  have hs:=h.2 i hi
  unfold wpOp at hs
  unfold wpOpIn
  cases ho:ops[i]? with
  | none=>
   rw [ho] at hs
   exact wpAny_round hd hQ md fuel _ a w hs
  | some o=>
   rw [ho] at hs
   dsimp only at hs ⊢
   by_cases hw:Region.wanted o (yielded ops a.tmps)=true
   ·rw [if_pos hw] at hs ⊢
    rcases hs with hs|hs
    ·exact oper_round (hd i o · ho) (Oper.wp_mono (fun a w=>wpAny_round hd hQ md fuel _ a w) hs)
    ·exact absurd hs.2 hQ
   ·rw [if_neg hw] at hs ⊢
    exact ⟨fun f _=>trivial,wpAny_round hd hQ md fuel _ _ w hs⟩⟩
theorem wpIn_region_held {id:Nat} {a:Act} {w:World} {S:World→Prop} (hm:P.follows .mixedOrders=true) (hd:ops.all (fun o=>match o.op with|.defer _=>false|_=>true)=true) (hQ:¬ LetsOut Q) (hS:S w.drew)
  (h:S w.drew→wpAnyH P .any ops Q S ops.size (Array.replicate ops.size false) a w.drew):(Code.region id ops true).wpIn (Fence.wide.inRound l) n P Q a w:=
 wpIn_region_any hm (wpAny_round (fun j o c ho e=>by
  have h1:=Array.all_eq_true'.1 hd o (Array.mem_of_getElem? ho)
  rw [e] at h1
  cases h1) hQ _ _ _ _ _ (wpAny_of_held _ _ _ _ (h hS)))
def nth {α:Type}:List α→Nat→Option α
 | [],_=>none
 | x :: _,0=>some x
 | _ :: l,k+1=>nth l k
theorem nth_get {α:Type}:∀ (l:List α) (k:Nat),l[k]?=nth l k
 | [],k=>by simp [nth]
 | x :: l,0=>by simp [nth]
 | x :: l,k+1=>by simp only [List.getElem?_cons_succ,nth];exact nth_get l k
theorem held_take {L:List Oper} {S:World→Prop} {md:Region.Mode} {i:Nat} {oi:Oper} {v:Value} {fuel:Nat} {listed:Array Bool} {a:Act} {w:World} (hi:nth L i=some oi)
  (hs:Region.noSelect L.toArray=true) (hf:Region.free md L.toArray listed i=true) (hr:(Region.ready md L.toArray listed).contains i=true)
  (hQ:∀ c a w,Q (.panic c) (a.put oi.dst v) w→Q (.panic c) a w) (hy:YieldsIf P L.toArray S oi v a) (hS:S w)
  (h:wpAnyH P md L.toArray Q S fuel (listed.setIfInBounds i true) (a.put oi.dst v) w):wpAnyH P md L.toArray Q S (fuel+1) listed a w:=
 wpAnyH_take (by rw [List.getElem?_toArray,nth_get];exact hi) hs hf hr hQ hy hS h
theorem held_cons {L:List Oper} {S:World→Prop} {md:Region.Mode} {fuel:Nat} {listed:Array Bool} {a:Act} {w:World} {i:Nat} {o:Oper} {rs:List Nat} (ho:nth L i=some o)
  (h:∀ K':Act→World→Prop,Shut (∀ a w,S w→(S w→wpAnyH P md L.toArray Q S fuel (listed.setIfInBounds i true) a w)→K' a w)→if Region.wanted o (yielded L.toArray a.tmps)=true then Oper.wp P o a w K' Q else K' (a.put o.dst undef) w)
  (hs:AllReadyH P md L.toArray Q S fuel listed a w rs):AllReadyH P md L.toArray Q S fuel listed a w (i :: rs):=
 AllReadyH.cons (by rw [List.getElem?_toArray,nth_get];exact ho) h hs
end
end Gal
end
section
namespace Gal
open Go Go.RowKit
theorem ints_grown {w w':World} {row:Option Nat} {a:Option Addr} {n cap b o:Nat} {xs:List Int} (h:IntsAt w a n cap b o xs) (hg:w.grownBy w' row) (hr:∀ r,row=some r→∃ ob:Obj,w.heap[r]?=some ob∧ob.isCells=false):IntsAt w' a n cap b o xs:=
 ⟨h.len,h.le,h.maxc,h.ptr,fun hn=>Nat.lt_of_lt_of_le (h.lt hn) hg.size,fun i hi=>cell_kept (h.cell i hi) hg hr⟩
theorem box_grown {w w':World} {row:Option Nat} {b:Nat} {cs:List Value} {t:TypeId} (h:Box w b cs t) (hg:w.grownBy w' row) (hr:∀ r,row=some r→∃ ob:Obj,w.heap[r]?=some ob∧ob.isCells=false):Box w' b cs t:=
 h.grown hg fun e=>by
  obtain ⟨ob,h1,h2⟩:=hr b e.symm
  unfold Box at h
  rw [h] at h1
  cases h1
  cases h2
def newPQ (base p q b:Nat):Prop:=base≤b∧b≠p∧b≠q
theorem below_grown' {B:Nat} {a w w':World} {row:Option Nat} (h:Below B a w) (hg:w.grownBy w' row) (hr:∀ r,row=some r→B≤r) (hB:B≤w.heap.size):Below B a w':=
 ⟨hg.os.trans h.os,hg.tape.trans h.tape,hg.output.trans h.output,Nat.le_trans h.size hg.size,fun k hk=>(hg.block k (by omega) (fun e=>by have:=hr k e.symm;omega)).trans (h.block k hk)⟩
theorem cellsBk {w:World} {b c d e i:Nat} {t0 t1 t2:TypeId} {v0 v1 v2 v3 v4 v5 v6 u x y z x' y' z':Value} (h:Box w b [v0,v1,v2,v3,v4,v5,v6] t0) (k:Box w c [u] t1) (m:Cells3 w d i x y z) (g:Box w e [x',y',z'] t2) :
  w.cell? ⟨b,0,none⟩=some v0∧w.cell? ⟨b,1,none⟩=some v1∧w.cell? ⟨b,2,none⟩=some v2∧w.cell? ⟨b,3,none⟩=some v3∧w.cell? ⟨b,4,none⟩=some v4∧w.cell? ⟨b,5,none⟩=some v5∧w.cell? ⟨b,6,none⟩=some v6∧w.cell? ⟨c,0,none⟩=some u ∧
   w.cell? ⟨d,i,none⟩=some x∧w.cell? ⟨d,i+1,none⟩=some y∧w.cell? ⟨d,i+2,none⟩=some z∧w.cell? ⟨e,0,none⟩=some x'∧w.cell? ⟨e,1,none⟩=some y'∧w.cell? ⟨e,2,none⟩=some z':=
 ⟨h.cell 0,h.cell 1,h.cell 2,h.cell 3,h.cell 4,h.cell 5,h.cell 6,k.cell 0,m.c0,m.c1,m.c2,g.cell 0,g.cell 1,g.cell 2⟩
theorem cellsBm {w:World} {b c d:Nat} {t0 t1 t2:TypeId} {u x y z v0 v1 v2 v3 v4 v5:Value} (h:Box w b [u] t0) (k:Box w c [x,y,z] t1) (m:Box w d [v0,v1,v2,v3,v4,v5] t2) :
  w.cell? ⟨b,0,none⟩=some u∧w.cell? ⟨c,0,none⟩=some x∧w.cell? ⟨c,1,none⟩=some y∧w.cell? ⟨c,2,none⟩=some z∧w.cell? ⟨d,0,none⟩=some v0∧w.cell? ⟨d,1,none⟩=some v1∧w.cell? ⟨d,2,none⟩=some v2∧w.cell? ⟨d,3,none⟩=some v3∧w.cell? ⟨d,4,none⟩=some v4∧w.cell? ⟨d,5,none⟩=some v5:=
 ⟨h.cell 0,k.cell 0,k.cell 1,k.cell 2,m.cell 0,m.cell 1,m.cell 2,m.cell 3,m.cell 4,m.cell 5⟩
theorem keepsFrom_far {B:Nat} {S:Nat→Prop} {w w':World} (h:Far S w w') (hS:∀ k,S k→k<B):KeepsFrom B w w':=
 ⟨h.size,fun k o hB hk _=>(h.block k (Array.getElem?_eq_some_iff.1 hk).1 (fun e=>absurd (hS k e) (by omega))).trans hk⟩
structure BackSt (tm tg:TypeId) (ls:List Lay) (ss:List Mat) (g:Mat) (n:Nat) (wl:World) (base p q:Nat) (l:List Nat) (w:World):Prop where
 far:Far (fun b=>b=p∨b=q) wl w
 ok:OkTo ls ss g l
 cur:∃ a m c b o,Box w p [.int .i64 (gone ls ss g l).1.rows,.int .i64 (gone ls ss g l).1.cols,.slice a m c] tm∧IntsAt w a m c b o (gone ls ss g l).1.cells∧(0<m→newPQ base p q b)
 outs:∃ cs,Box w q cs tg∧cs.length=n*6∧∀ j d,(gone ls ss g l).2 j=some d→j<n→∃ c,Form.grd.reads w (newPQ base p q) c d∧∀ i,i<6→cs[j*6+i]?=c[i]?
end Gal
namespace Go.Proofs.YtchngeagnlngaaaGreatDoor
open Go.RowKit Gal
theorem reads_grown {w w':World} {row:Option Nat} {F:Nat→Prop} {c:List Value} {d:Grd} (h:Form.grd.reads w F c d) (hg:w.grownBy w' row) (hr:∀ r,row=some r→∃ ob:Obj,w.heap[r]?=some ob∧ob.isCells=false):Form.grd.reads w' F c d:=by
 obtain ⟨a1,n1,k1,b1,o1,a2,n2,k2,b2,o2,rfl,f1,x1,f2,x2⟩:=grd_reads h
 exact reads_grd f1 (ints_grown x1 hg hr) f2 (ints_grown x2 hg hr)
theorem backSt_grown {tm tg:TypeId} {ls:List Lay} {ss:List Mat} {g:Mat} {n:Nat} {wl:World} {base p q:Nat} {l:List Nat} {w w':World} {row:Option Nat} (h:BackSt tm tg ls ss g n wl base p q l w) (hg:w.grownBy w' row)
  (hr:∀ r,row=some r→wl.heap.size≤r∧∃ ob:Obj,w.heap[r]?=some ob∧ob.isCells=false):BackSt tm tg ls ss g n wl base p q l w' where
 far:=h.far.grown hg (fun k e hk=>absurd (hr k e).1 (by omega))
 ok:=h.ok
 cur:=by
  obtain ⟨a,m,c,b,o,h1,h2,h3⟩:=h.cur
  exact ⟨a,m,c,b,o,box_grown h1 hg (fun r e=>(hr r e).2),ints_grown h2 hg (fun r e=>(hr r e).2),h3⟩
 outs:=by
  obtain ⟨cs,h1,h2,h3⟩:=h.outs
  refine ⟨cs,box_grown h1 hg (fun r e=>(hr r e).2),h2,fun j d hj hn=>?_⟩
  obtain ⟨c,h4,h5⟩:=h3 j d hj hn
  exact ⟨c,reads_grown h4 hg (fun r e=>(hr r e).2),h5⟩
theorem backSt_alloc {tm tg:TypeId} {ls:List Lay} {ss:List Mat} {g:Mat} {n:Nat} {wl:World} {base p q:Nat} {l:List Nat} {w:World} (h:BackSt tm tg ls ss g n wl base p q l w) (o:Obj):BackSt tm tg ls ss g n wl base p q l (w.alloc o):=
 backSt_grown h (World.grownBy_alloc w o none) (fun r e=>by cases e)
theorem backSt_next {tm tg:TypeId} {ls:List Lay} {ss:List Mat} {g:Mat} {n:Nat} {wl:World} {base p q:Nat} {l:List Nat} {w we:World} {x m c b o nA kA bA oA nB kB bB oB:Nat} {a aA aB:Option Addr} {cs:List Value} {L:Lay} {M G:Mat}
  (h:BackSt tm tg ls ss g n wl base p q l w) (hx:x<n) (hL:L=lx ls x) (hM:M=mx ss x) (hG:G=(gone ls ss g l).1) (hf:L.backFault M G=0) (hfar:Far (fun b=>b=p∨b=q) w we) (hp:p<w.heap.size) (hq:q<w.heap.size) (hbase:base≤w.heap.size) (hcs:cs.length=n*6)
  (hcells:∀ j d,(gone ls ss g l).2 j=some d→j<n→∃ c,Form.grd.reads w (newPQ base p q) c d∧∀ i,i<6→cs[j*6+i]?=c[i]?)
  (hP:Box we p [.int .i64 (L.back M G).rows,.int .i64 (L.back M G).cols,.slice a m c] tm) (hi:IntsAt we a m c b o (L.back M G).cells) (hb:0<m→w.heap.size≤b)
  (hQ:Box we q ((((((cs.set (x*6) (.int .i64 (L.grad M G).W.rows)).set (x*6+1) (.int .i64 (L.grad M G).W.cols)).set (x*6+2) (.slice aA nA kA)).set (x*6+3) (.int .i64 (L.grad M G).B.rows)).set (x*6+4) (.int .i64 (L.grad M G).B.cols)).set (x*6+5) (.slice aB nB kB)) tg)
  (hA:IntsAt we aA nA kA bA oA (L.grad M G).W.cells) (hbA:0<nA→w.heap.size≤bA) (hB:IntsAt we aB nB kB bB oB (L.grad M G).B.cells) (hbB:0<nB→w.heap.size≤bB):BackSt tm tg ls ss g n wl base p q (l++[x]) we:=by
 subst hL hM hG
 refine ⟨h.far.trans hfar,h.ok.snoc hf,?_,?_⟩
 ·rw [gone_snoc]
  exact ⟨a,m,c,b,o,hP,hi,fun hm=>by have:=hb hm;exact ⟨by omega,by omega,by omega⟩⟩
 ·refine ⟨_,hQ,by simp [hcs],fun j d hj hjn=>?_⟩
  rw [gone_snoc] at hj
  dsimp only at hj
  by_cases e:j=x
  ·subst e
   rw [if_pos rfl] at hj
   cases hj
   exact ⟨_,reads_grd (fun hm=>by have:=hbA hm;exact ⟨by omega,by omega,by omega⟩) hA (fun hm=>by have:=hbB hm;exact ⟨by omega,by omega,by omega⟩) hB,sets6 (by omega) _ _ _ _ _ _⟩
  ·rw [if_neg e] at hj
   obtain ⟨c',hr,hc⟩:=hcells j d hj hjn
   refine ⟨c',reads_farS hr hfar (fun b hb _=>by rintro (e|e);exact hb.2.1 e;exact hb.2.2 e),fun i hi=>?_⟩
   rw [← hc i hi,List.getElem?_set_ne (by omega),List.getElem?_set_ne (by omega),List.getElem?_set_ne (by omega),List.getElem?_set_ne (by omega),List.getElem?_set_ne (by omega),List.getElem?_set_ne (by omega)]
theorem backSt_done {tm tg:TypeId} {ls:List Lay} {ss:List Mat} {g:Mat} {n:Nat} {wl:World} {base p q:Nat} {w:World} (h:BackSt tm tg ls ss g n wl base p q (descs n n) w) (hn:n≤maxLen) (hq:base≤q) :
  bF ls ss g n n=0∧(∃ a m c b o,Box w p [.int .i64 (bM ls ss g n n).rows,.int .i64 (bM ls ss g n n).cols,.slice a m c] tm∧IntsAt w a m c b o (bM ls ss g n n).cells∧(0<m→base≤b)) ∧
   RowAt Form.grd w (newB base) (some ⟨q,0,none⟩) n n q 0 (bDs ls ss g n):=by
 obtain ⟨h1,h2⟩:=gone_descs (ls:=ls) (ss:=ss) (g:=g) n n (Nat.le_refl _)
 refine ⟨bF_descs n n (Nat.le_refl _) h.ok,?_,?_⟩
 ·obtain ⟨a,m,c,b,o,k1,k2,k3⟩:=h.cur
  rw [h1] at k1 k2
  exact ⟨a,m,c,b,o,k1,k2,fun hm=>(k3 hm).1⟩
 ·obtain ⟨cs,k1,k2,k3⟩:=h.outs
  refine ⟨bDs_length,Nat.le_refl _,hn,fun _=>rfl,fun _=>k1.lt,fun _=>hq,fun i x hx=>?_⟩
  have hi:i<n:=by have:=(List.getElem?_eq_some_iff.1 hx).1;rwa [bDs_length] at this
  have e:x=bD ls ss g n (n - 1 - i):=by have:=gx_get (ds:=bDs ls ss g n) (by rw [bDs_length];exact hi);rw [hx,bDs_gx hi] at this;exact Option.some.inj this
  subst e
  obtain ⟨c,hr,hc⟩:=k3 i _ (h2 i (by omega) hi) hi
  exact ⟨c,Form.grd.wide (fun b hb _=>hb.1) hr,fun j hj=>by rw [Nat.zero_add,k1.cell];exact hc j hj⟩
theorem row_grown {w w':World} {row:Option Nat} {F:Nat→Prop} {a:Option Addr} {n k b o:Nat} {ds:List Grd} (h:RowAt Form.grd w F a n k b o ds) (hg:w.grownBy w' row) (hr:∀ r,row=some r→∃ ob:Obj,w.heap[r]?=some ob∧ob.isCells=false):RowAt Form.grd w' F a n k b o ds where
 len:=h.len
 le:=h.le
 maxc:=h.maxc
 ptr:=h.ptr
 lt:=fun h0=>Nat.lt_of_lt_of_le (h.lt h0) hg.size
 blk:=h.blk
 cell:=fun i x hx=>by
  obtain ⟨cs,h1,h2⟩:=h.cell i x hx
  refine ⟨cs,reads_grown h1 hg hr,fun j hj=>?_⟩
  have hl:j<cs.length:=by rw [Form.grd.len h1];exact hj
  have h3:=h2 j hj
  rw [List.getElem?_eq_getElem hl] at h3 ⊢
  exact cell_kept h3 hg hr
end Go.Proofs.YtchngeagnlngaaaGreatDoor
end
