/- Texts joined: Back3, Loss2, Gath1. -/
import Derived.Test.YtchngeagnlngaaaGreatDoorJ31
import Derived.Test.YtchngeagnlngaaaGreatDoorJ29
import Derived.Test.YtchngeagnlngaaaGreatDoorJ05
import Derived.Test.YtchngeagnlngaaaGreatDoorJ09
import Derived.Test.YtchngeagnlngaaaGreatDoorJ01
import Derived.Maps.AppendAt
import Derived.Test.YtchngeagnlngaaaGreatDoorJ02
import Derived.Test.YtchngeagnlngaaaGreatDoorJ24
import Derived.Test.YtchngeagnlngaaaGreatDoorJ19
import Derived.Deep.CutBlock
import Derived.Deep.DeepCutAuto
import Derived.Deep.RegionHeld3
set_option linter.unusedVariables false
set_option linter.unusedSimpArgs false
set_option linter.unusedSectionVars false
section
namespace Go.Proofs.YtchngeagnlngaaaGreatDoor
open Go.RowKit Go.Shelf Gal
set_option maxRecDepth 100000
set_option maxHeartbeats 2000000
theorem netBack_any (ls:List Lay) (ss:List Mat) (g:Mat) (F G:Nat→Prop) (a0 a1:Option Addr) (n n1 k0 k1 b0 b1 o0 o1:Nat) (vg:Value) (w:World) (h0:RowAt Form.lay w F a0 n k0 b0 o0 ls) (h1:RowAt Form.mat w G a1 n1 k1 b1 o1 ss) (hg:MatAt w vg g)
  (hgl:g.cells.length*8≤140737488355328):Calls Tryz.prog 61 #[.slice a0 n k0,.slice a1 n1 k1,vg] w (BackEnd w ls ss g n (netBackFault ls ss g)):=by
 have hl0:=h0.len
 have hl1:=h1.len
 have hm0:=h0.max
 have hm1:=h1.max
 unfold maxLen at hm0 hm1
 by_cases h12:12<n
 ·have hF:netBackFault ls ss g=3:=by unfold netBackFault;rw [if_pos (by omega)]
  rw [hF]
  obtain ⟨ag,ng,kg,bg,og,rfl,xg⟩:=hg
  have e1:((n:Int) > 12)=True:=by simp;omega
  clear hF
  go_enter Tryz.func61,Tryz.ntmps61
  go_wp2
  exact bodyPost_ret (v:=.tuple #[.agg #[.int .i64 0,.int .i64 0,.slice none 0 0],.slice none 0 0,.iface 36 (.int .i64 3)]) (by simp [results,Tryz.results61,go_sem]) rfl ⟨_,_,rfl,Below.x0,fun h=>absurd h (by decide),fun _=>⟨rfl,rfl⟩⟩
 ·by_cases hn1:n1=n+1
  ·by_cases hz:n=0∧g.fault≠0
   ·obtain ⟨rfl,hf⟩:=hz
    have hF:netBackFault ls ss g=g.fault:=by unfold netBackFault;rw [if_neg (by omega),if_neg (by omega),if_pos hl0]
    rw [hF]
    obtain ⟨ag,ng,kg,bg,og,rfl,xg⟩:=hg
    have HE:=Lib.hid (show errV (matFault g.rows g.cols g.cells)=.iface 36 (.int .i64 g.fault) from errV_err hf)
    have HF:=Lib.hid hf
    obtain rfl:n1=1:=by omega
    clear hF hf hl0 hl1 hm0 hm1 h12 hgl hn1
    go_enter Tryz.func61,Tryz.ntmps61
    go_wp2_with fail
    refine (matCheck_any g.rows g.cols ag ng kg bg og g.cells _ xg.k).mono ?_
    rw [HE.out]
    rintro e w1 ⟨rfl,hb1⟩
    have P6:=((show Box _ (w.heap.size+1+1) [.int .i64 0,.int .i64 0,.slice none 0 0] 41 from Box.x0)).keep hb1
    have P6c:=P6.cell
    have P6f:=P6.thawed
    have P6z:=P6.lt
    have P6k:=lt_add P6z
    have P7:=((show Box _ (w.heap.size+1+1+1) [.slice none 0 0] 23 from Box.x0)).keep hb1
    have P7c:=P7.cell
    have P7f:=P7.thawed
    have P7z:=P7.lt
    have P7k:=lt_add P7z
    have P8:=((show Box _ (w.heap.size+1+1+1+1) [.nilIface] 33 from Box.x0)).keep hb1
    have P8c:=P8.cell
    have P8f:=P8.thawed
    have P8z:=P8.lt
    have P8k:=lt_add P8z
    have hbe:Below w.heap.size w w1:=(Below.x1 hb1)
    go_wp2
    exact bodyPost_ret (v:=.tuple #[.agg #[.int .i64 0,.int .i64 0,.slice none 0 0],.slice none 0 0,.iface 36 (.int .i64 g.fault)]) (by simp [results,Tryz.results61,go_sem,P6c,P7c,P8c]) rfl ⟨_,_,by rw [errV_err HF.out],(Below.y0 hbe),fun h=>absurd h HF.out,fun _=>⟨rfl,rfl⟩⟩
   ·have hF:netBackFault ls ss g=bF ls ss g n n:=by
     unfold netBackFault
     rw [if_neg (by omega),if_neg (by omega)]
     by_cases h:n=0
     ·rw [if_pos (by omega)]
      subst h
      exact Classical.not_not.1 (fun h=>hz ⟨rfl,h⟩)
     ·rw [if_neg (by omega),hl0]
    rw [hF]
    exact netBack_walk ls ss g F G a0 a1 n n1 k0 k1 b0 b1 o0 o1 vg w h0 h1 hg hgl (by omega) hn1 (fun h=>Classical.not_not.1 (fun h'=>hz ⟨h,h'⟩))
  ·have hF:netBackFault ls ss g=2:=by unfold netBackFault;rw [if_neg (by omega),if_pos (by omega)]
   rw [hF]
   obtain ⟨ag,ng,kg,bg,og,rfl,xg⟩:=hg
   have e1:((n:Int) > 12)=False:=by simp;omega
   have e2:((n1:Int) != wrap64 ((n:Int)+1))=true:=by simp [wrap64];omega
   have e3:((n1:Int) != (n:Int)+1)=true:=by simp;omega
   clear hF
   go_enter Tryz.func61,Tryz.ntmps61
   go_wp2
   exact bodyPost_ret (v:=.tuple #[.agg #[.int .i64 0,.int .i64 0,.slice none 0 0],.slice none 0 0,.iface 36 (.int .i64 2)]) (by simp [results,Tryz.results61,go_sem]) rfl ⟨_,_,rfl,Below.x0,fun h=>absurd h (by decide),fun _=>⟨rfl,rfl⟩⟩
end Go.Proofs.YtchngeagnlngaaaGreatDoor
end
section
namespace Go.Proofs.YtchngeagnlngaaaGreatDoor
open Go.RowKit Go.Shelf Gal
attribute [local go_sem] Oper.semAt_some
theorem boxRow_own {β:Type} (n₀ B C:Nat) (t e u:TypeId) (hte:e≠t) (cs:Value→List Value) (ds:List Value) (k:β→Nat) (f:β→List Value) :
  Own (fun s W=>(∃ v,Box W B (cs v) t∧W.ownsRow n₀ e 1 v (k s) (f s))∧Box W C ds u):=by
 rintro s X Y row ⟨⟨v,hv,hr⟩,hC⟩ hg hrow
 have hno:∀ {b:Nat} {l:List Value} {t:TypeId},Box X b l t→some b≠row:=fun {b l t} hb e'=>by
  obtain ⟨o,ho,hc⟩:=hrow b e'.symm
  unfold Box at hb;rw [hb] at ho;cases ho;cases hc
 refine ⟨⟨v,hv.grown hg (hno hv),hr.kept hg ?_⟩,hC.grown hg (hno hC)⟩
 rcases hr.2 with ⟨rfl,_⟩|⟨g,cap,cur,rfl,_,hgb,_⟩
 ·exact .inl rfl
 ·refine .inr fun e'=>?_
  obtain ⟨o,ho,hc⟩:=hrow g (by simpa [Value.ownBlock] using e'.symm)
  rw [hgb] at ho;cases ho;cases hc
theorem own_cells {w:World} {base e size n:Nat} {v:Value} {xs:List Value} (h:w.ownsRow base e size v n xs) (o':Obj):∀ (j:Nat) (o:Obj),v.ownBlock=some j→(w.alloc o').heap[j]?=some o→o.isCells=true:=by
 intro j o hj ho
 rcases h.2 with ⟨rfl,_⟩|⟨g,cap,cur,rfl,_,hg,_⟩
 ·simp [Value.ownBlock] at hj
 ·simp [Value.ownBlock] at hj
  subst hj
  have hlt:g<w.heap.size:=by
   rcases Nat.lt_or_ge g w.heap.size with h1|h1
   ·exact h1
   ·rw [Array.getElem?_eq_none h1] at hg;cases hg
  rw [Below.heap_alloc _ _ _ hlt,hg] at ho
  cases ho
  rfl
set_option maxRecDepth 100000 in
set_option maxHeartbeats 2000000 in
theorem lossBack_ok (ma mb:Mat) (va vb:Value) (w:World) (ha:MatAt w va ma) (hb:MatAt w vb mb) (hf:lossFault ma mb=0) :
  Calls Tryz.prog 60 #[va,vb] w fun e w'=>∃ v,e=.returned (.tuple #[v,.nilIface])∧MatNew w.heap.size w' v (lossBack ma mb)∧Below w.heap.size w w':=by
 obtain ⟨a0,n0,k0,b0,o0,rfl,h0⟩:=ha
 obtain ⟨a1,n1,k1,b1,o1,rfl,h1⟩:=hb
 obtain ⟨fa,fb,hr,hc⟩:=lossFault_ok hf
 have hbnd:n0≤288:=by
  have q1:=h0.len
  have e4:=(fault_bd fa).2.2
  omega
 have hn:n0=n1:=by
  obtain ⟨R,C,e1,e2,_,_,e3,_⟩:=matFault_ok fa
  obtain ⟨R',C',e1',e2',_,_,e3',_⟩:=matFault_ok fb
  have q1:=h0.len
  have q2:=h1.len
  have r1:R=R':=by omega
  have r2:C=C':=by omega
  subst r1 r2
  omega
 subst hn
 have HF:=Lib.hid hf
 clear hf fa fb hr hc
 refine (callsIn_wide (n:=6)).1 ?_
 refine callsIn_of_wp_marks Tryz.func60 rfl trivial ?_ rfl
 simp only [Tryz.ntmps60,List.size_toArray,List.length_cons,List.length_nil,Nat.reduceAdd,Nat.reduceSub,Array.replicate_succ,Array.replicate_zero,List.push_toArray,List.append_toArray,List.nil_append,List.cons_append]
 gi_wp2_with fail
 refine ⟨trivial,?_⟩
 refine (callsIn_wide.2 (apart_ok ma mb _ _ _ _ _ _ _ _ _ _ _ (h0.alloc _ |>.alloc _ |>.alloc _) (h1.alloc _ |>.alloc _ |>.alloc _) HF.out)).mono ?_
 rintro e w2 ⟨rfl,Ba,Bb,hb2⟩
 have G0:=(((Box.new w _ 41).alloc _).alloc _).keep hb2
 have G0c:=G0.cell
 have G0f:=G0.thawed
 have G0z:=G0.lt
 have G0k:=lt_add G0z
 have G4:=(Box.new' _ (w.heap.size+1+1) _ 41 (by simp)).keep hb2
 have G4c:=G4.cell
 have G4f:=G4.thawed
 have G4z:=G4.lt
 have G4k:=lt_add G4z
 simp only [World.size_alloc] at Ba Bb
 have hk2:Below w.heap.size w w2:=(Below.x1 hb2)
 have x0:=h0.keep hk2
 have x1:=h1.keep hk2
 have z2:=Bb.lt
 gi_wp2
 have hS:Box (w2.alloc (.cells #[.int .i64 ma.rows,.int .i64 ma.cols,.slice none 0 0] 41)) w2.heap.size [.int .i64 ma.rows,.int .i64 ma.cols,.slice none 0 0] 41:=Box.new w2 _ _
 have hz3:w.heap.size+1+1+1+1<w2.heap.size:=z2
 obtain ⟨i0,hi,hi0,hi1,hi2⟩:=info_parts info_int
 have hln:=h0.len
 have hsz:w.heap.size≤w2.heap.size:=hk2.size
 refine wpIn_rangeFunc_ownF rfl (by decide) (gf:=102) (lb:=#[.pointer (some ⟨w.heap.size+1+1+1,0,none⟩),.pointer (some ⟨w.heap.size+1+1+1+1,0,none⟩)]) rfl trivial (enters_of Tryz.func102 (by kernel_rfl) rfl)
  (apart1_stops 5 (by decide) (w.heap.size+1+1+1) (w.heap.size+1+1+1+1) w2.heap.size n0 _ _ _ _ a0 a1 k0 k1 b0 b1 o0 o1 ma.cells mb.cells (w2.alloc (.cells #[.int .i64 ma.rows,.int .i64 ma.cols,.slice none 0 0] 41)) (by simp) (Ba.alloc _) (by omega) (Bb.alloc _) (by omega) (x0.alloc _) x0.lt (x1.alloc _) x1.lt)
  belowK_t (belowK_b (by simp)) (Below.refl _ _) (fun _=>rfl)
  (fun pre W=>((∃ v,Box W w2.heap.size [.int .i64 ma.rows,.int .i64 ma.cols,v] 41∧W.ownsRow w2.heap.size 3 1 v pre.length (pre.map (Value.int .i64)))∧Box W (w.heap.size+1+1) [.int .i64 0,.int .i64 0,.slice none 0 0] 41)∧Below w.heap.size w W)
  (fun _ _ _=>False)
  (OwnFrom.and (Own.from (boxRow_own w2.heap.size w2.heap.size (w.heap.size+1+1) 41 3 41 (by decide) (fun v=>[.int .i64 ma.rows,.int .i64 ma.cols,v]) [.int .i64 0,.int .i64 0,.slice none 0 0] (fun pre:List Int=>pre.length) (fun pre=>pre.map (Value.int .i64))) _) (ownFrom_below (by first|omega|(simp;omega)|simp) (by first|omega|(simp;omega)|simp)))
  (fun _ _ _ _ _ hs _ _=>hs)
  ⟨⟨⟨_,hS,World.ownsRow_nil _ _ _ _⟩,G4.alloc _⟩,hk2.al _⟩
  (fun x=>{ tmps:=#[.agg #[.int .i64 ma.rows,.int .i64 ma.cols,.slice a0 n0 k0],.agg #[.int .i64 mb.rows,.int .i64 mb.cols,.slice a1 n0 k1],.pointer (some ⟨w.heap.size,0,none⟩),.pointer (some ⟨w.heap.size+1,0,none⟩),.pointer (some ⟨w.heap.size+1+1,0,none⟩),.nilIface,
   .func (.func 102) #[] #[.pointer (some ⟨w.heap.size+1+1+1,0,none⟩),.pointer (some ⟨w.heap.size+1+1+1+1,0,none⟩)],.nilIface,.pointer (some ⟨w2.heap.size,0,none⟩),.int .i64 x,
   .tuple #[.func (.func 102) #[] #[.pointer (some ⟨w.heap.size+1+1+1,0,none⟩),.pointer (some ⟨w.heap.size+1+1+1+1,0,none⟩)],.nilIface],.agg #[.int .i64 ma.rows,.int .i64 ma.cols,.slice a0 n0 k0],.agg #[.int .i64 mb.rows,.int .i64 mb.cols,.slice a1 n0 k1],.tuple #[.func (.func 102) #[] #[.pointer (some ⟨w.heap.size+1+1+1,0,none⟩),.pointer (some ⟨w.heap.size+1+1+1+1,0,none⟩)],.nilIface],.func (.func 102) #[] #[.pointer (some ⟨w.heap.size+1+1+1,0,none⟩),.pointer (some ⟨w.heap.size+1+1+1+1,0,none⟩)],.nilIface,.nilIface,.bool false,undef,undef,
   .pointer (some ⟨w.heap.size,0,none⟩),.int .i64 ma.rows,.pointer (some ⟨w.heap.size,1,none⟩),.int .i64 ma.cols,.agg #[.int .i64 ma.rows,.int .i64 ma.cols,.slice none 0 0],
   .func (.func 102) #[] #[.pointer (some ⟨w.heap.size+1+1+1,0,none⟩),.pointer (some ⟨w.heap.size+1+1+1+1,0,none⟩)],.int .i64 x,undef,undef,undef,undef,undef,undef,undef],defers:=[] }) ?assign ?body ?done ?stop
 case assign=>
  intro l x W K hK
  gi_wp2
  exact hK
 case body=>
  rintro l pre x W ⟨⟨⟨v,hv,hrow⟩,hG⟩,hB⟩ hlt
  have hc:=hv.cell 2
  have hf:=hv.thawed 2
  have hWs:w2.heap.size<W.heap.size:=hv.lt
  have hnev:=own_ne hrow hv (by decide)
  have hneG:=own_ne hrow hG (by decide)
  have e1:pre.length+1≤maxLen:=by unfold maxLen;omega
  have e2:(pre.length+1)*8≤140737488355328:=by omega
  have e3:∀ o,w2.heap.size≤(W.alloc o).heap.size:=fun o=>by simp;omega
  have e4:∀ u ∈ [Value.int .i64 x],u.oneCell'=true:=by simp [Value.oneCell']
  gi_wp2_with (gi_at_builtin;(refine wpListIn_append_own _ rfl _ _ 29 rfl w2.heap.size 3 i0 (.int .i64 0) 1 8 Tryz.underlying29 hi hi0 hi1 hi2 rfl (by decide) _ pre.length (pre.map (Value.int .i64)) rfl (hrow.alloc _) ⟨W.heap.size,0,none⟩ 1 1 [.int .i64 x] rfl rfl (cell_one_new W (.int .i64 x) 3) e4 e1 e2 (e3 _) ?_;intro v' w1 hown' hgrow _;obtain ⟨g',cap',rfl⟩:=ownsRow_succ hown';have hv1:=(hv.alloc _).grown hgrow (fun e=>hnev e.symm);have hG1:=(hG.alloc _).grown hgrow (fun e=>hneG e.symm);have hc1:=hv1.cell 2;have hf1:=hv1.thawed 2))
  have hne:=own_ne hown' hv1 (by decide)
  have hb1:Below w2.heap.size W w1:=Below.grown ((Below.refl _ W).alloc (by omega) _) hgrow (by simp;omega) fun k hk=>(hrow.lt k hk).1
  refine ⟨((KeepsOthers.alloc W _).trans (KeepsOthers.of_grownBy hgrow (own_cells hrow _))).trans (KeepsOthers.setCell _ _ _),hb1.setCell (p:=⟨w2.heap.size,2,none⟩) (Nat.le_refl _) _,⟨⟨_,hv1.set 2 _,?_⟩,hG1.far (by dsimp only;omega) _⟩,(hB.trans (hb1.mono hsz)).setCell (p:=⟨w2.heap.size,2,none⟩) (by dsimp only;omega) _⟩
  have:=own_set hown' (a:=⟨w2.heap.size,2,none⟩) hne
  simpa using this _
 case done=>
  rintro D l W hD rfl ⟨⟨⟨v,hv,hrow⟩,hG⟩,hB⟩ hK
  obtain ⟨a,cap,b,rfl,hbb,hia⟩:=IntsAt.of_own hrow
  have O:=hv
  have Oc:=O.cell
  have Of:=O.thawed
  have Oz:=O.lt
  have Ok:=lt_add Oz
  have G:=hG
  have Gc:=G.cell
  have Gf:=G.thawed
  have Gz:=G.lt
  have Gk:=lt_add Gz
  gi_wp2
  have hK':=(((KeepsOthers.setCell W ⟨w.heap.size+1+1,0,none⟩ (.int .i64 ma.rows)).trans (KeepsOthers.setCell _ ⟨w.heap.size+1+1,1,none⟩ (.int .i64 ma.cols))).trans (KeepsOthers.setCell _ ⟨w.heap.size+1+1,2,none⟩ (.slice a (offs ma.cells mb.cells n0).length cap))).same D _ hK rfl
  have G3:Box (((W.setCell ⟨w.heap.size+1+1,0,none⟩ (.int .i64 ma.rows)).setCell ⟨w.heap.size+1+1,1,none⟩ (.int .i64 ma.cols)).setCell ⟨w.heap.size+1+1,2,none⟩ (.slice a (offs ma.cells mb.cells n0).length cap)) (w.heap.size+1+1) [.int .i64 ma.rows,.int .i64 ma.cols,.slice a (offs ma.cells mb.cells n0).length cap] 41:=((G.set 0 _).set 1 _).set 2 _
  have hi3:=hia.set3 (B:=w.heap.size+1+1) (fun h=>by have:=hbb h;omega) (.int .i64 ma.rows) (.int .i64 ma.cols) (.slice a (offs ma.cells mb.cells n0).length cap)
  have hB3:=((hB.setCell (p:=⟨w.heap.size+1+1,0,none⟩) (by dsimp only;omega) (.int .i64 ma.rows)).setCell (p:=⟨w.heap.size+1+1,1,none⟩) (by dsimp only;omega) (.int .i64 ma.cols)).setCell (p:=⟨w.heap.size+1+1,2,none⟩) (by dsimp only;omega) (.slice a (offs ma.cells mb.cells n0).length cap)
  generalize ((W.setCell ⟨w.heap.size+1+1,0,none⟩ (.int .i64 ma.rows)).setCell ⟨w.heap.size+1+1,1,none⟩ (.int .i64 ma.cols)).setCell ⟨w.heap.size+1+1,2,none⟩ (.slice a (offs ma.cells mb.cells n0).length cap)=W3 at *
  have hD':w2.heap.size+1≤D:=by simpa using hD
  have G5:=G3.grown (grownBy_putObj' W3 D (.deferred none)) (fun e=>by cases e;omega)
  have G5c:=G5.cell
  have hbW:=belowK_b (n₀:=w2.heap.size) (w:=w2) (Nat.le_refl _) W3 D _ (.deferred none) (by omega) hK' rfl rfl
  have hiW:IntsAt (W3.putObj D (.deferred none)) a (offs ma.cells mb.cells n0).length cap b 0 (offs ma.cells mb.cells n0):=by
   refine ⟨hi3.len,hi3.le,hi3.maxc,hi3.ptr,fun h=>Nat.lt_of_lt_of_le (hi3.lt h) (by simp [World.putObj]),fun i hi'=>?_⟩
   refine (World.cell?_of_block (a:=⟨b,0+i,none⟩) ((grownBy_putObj' W3 D (.deferred none)).block b (hi3.lt (by omega)) ?_)).trans (hi3.cell i hi')
   intro e
   cases e
   have:=hi3.cell i hi'
   simp [World.cell?,hK'] at this
  refine ⟨by simp,.inl ⟨_,_,rfl,run_takeDeferred hK',?_⟩⟩
  refine ⟨.tuple #[.agg #[.int .i64 ma.rows,.int .i64 ma.cols,.slice a (offs ma.cells mb.cells n0).length cap],.nilIface],by simp [results,Tryz.results60,go_sem,G5c],⟨_,rfl,?_,hB3.trans (hbW.mono hsz)⟩⟩
  unfold lossBack
  rw [hln]
  exact ⟨_,_,_,b,0,rfl,fun h=>by have:=hbb h;omega,hiW⟩
 case stop=>
  rintro D c pre W _ _ h _
  exact h.elim
end Go.Proofs.YtchngeagnlngaaaGreatDoor
end
section
namespace Go.Proofs.YtchngeagnlngaaaGreatDoor
open Go.RowKit Gal
set_option maxRecDepth 100000
set_option maxHeartbeats 2000000
theorem gather_any (ds es:List Grd) (F G:Nat→Prop) (a0 a1:Option Addr) (n0 n1 k0 k1 b0 b1 o0 o1:Nat) (w:World) (h0:RowAt Form.grd w F a0 n0 k0 b0 o0 ds) (h1:RowAt Form.grd w G a1 n1 k1 b1 o1 es) (hn:n0*80≤140737488355328) :
  Calls Tryz.prog 62 #[.slice a0 n0 k0,.slice a1 n1 k1] w fun e w'=>∃ u,e=.returned (.tuple #[u,errV (gatherFault ds es)])∧Below w.heap.size w w' ∧
   (gatherFault ds es=0→∃ a k b,u=.slice a n0 k∧RowAt Form.grd w' (newB w.heap.size) a n0 k b 0 (gatherTo ds es n0))∧(gatherFault ds es≠0→u=.slice none 0 0):=by
 obtain ⟨i0,hi,hz0,hz1,hz2⟩:=info_parts info_grad
 have m0:=h0.max
 have m1:=h1.max
 unfold maxLen at m0 m1
 have HL0:=Lib.hid h0.len
 have HL1:=Lib.hid h1.len
 have HN:=Lib.hid hn
 clear hn
 by_cases hl:n0=n1
 ·subst hl
  have HGF:Hid (gatherFault ds es=gatherFaultTo ds es n0):=Lib.hid (by unfold gatherFault;rw [if_pos (HL0.out.trans HL1.out.symm),HL0.out])
  rw [HGF.out]
  have hne:((n0:Int) != (n0:Int))=false:=by simp
  go_enter Tryz.func62,Tryz.ntmps62
  go_wp2_with fail
  go_loopw [6,19] (fun s j wr=>∃ t:Nat,t≤n0∧j=.int .i64 t∧Hid (gatherFaultTo ds es t=0)∧OwnRow Form.grd 86 wr w.heap.size (newB w.heap.size) s (gatherTo ds es t)∧Below w.heap.size w wr) (fun _ j _=>n0 - (intOf j).toNat)
  case atStart=>exact ⟨0,Nat.zero_le _,rfl,Lib.hid rfl,OwnRow.nil _ _ _ _ _,Below.refl _ _⟩
  case round=>
   obtain ⟨t,ht,rfl,HZ,hown,hbr⟩:=hrel
   by_cases hlt:t<n0
   ·have hltI:(t:Int)<(n0:Int):=by omega
    have hgeI:(0:Int)≤(t:Int):=by omega
    obtain rfl:=h0.ptr (by omega)
    obtain rfl:=h1.ptr (by omega)
    obtain ⟨pWx1,pWx2,pWx3,pWx4,pWx5,pBx1,pBx2,pBx3,pBx4,pBx5,c0,c1,c2,c3,c4,c5,yW,yB⟩:=grd_cells (h0.keep hbr) (gx_get (by rw [HL0.out];exact hlt))
    obtain ⟨qWx1,qWx2,qWx3,qWx4,qWx5,qBx1,qBx2,qBx3,qBx4,qBx5,e0,e1,e2,e3,e4,e5,zW,zB⟩:=grd_cells (h1.keep hbr) (gx_get (by rw [HL1.out];exact hlt))
    obtain ⟨A,hA⟩:∃ A,A=gx ds t:=⟨_,rfl⟩
    obtain ⟨B,hB⟩:∃ B,B=gx es t:=⟨_,rfl⟩
    rw [← hA] at c0 c1 c3 c4 yW yB
    rw [← hB] at e0 e1 e3 e4 zW zB
    have HA:=Lib.hid hA
    have HB:=Lib.hid hB
    have CW:Cells3 wr b0 (o0+t*6) _ _ _:=⟨c0,c1,c2⟩
    have CB:Cells3 wr b0 (o0+t*6+3) _ _ _:=⟨c3,c4,c5⟩
    have DW:Cells3 wr b1 (o1+t*6) _ _ _:=⟨e0,e1,e2⟩
    have DB:Cells3 wr b1 (o1+t*6+3) _ _ _:=⟨e3,e4,e5⟩
    clear hA hB c0 c1 c2 c3 c4 c5 e0 e1 e2 e3 e4 e5
    obtain ⟨av,cv,hsv⟩:=hown.slice
    rw [gatherTo_length] at hsv
    subst hsv
    have HOB:=Lib.hid hown.base_le
    have hwz:=hbr.size
    have hlb0:b0<wr.heap.size:=(h0.keep hbr).lt (by omega)
    have hlb1:b1<wr.heap.size:=(h1.keep hbr).lt (by omega)
    go_upto_region 7 with (fail)
    go_cut [8,9] (fun s1 s9 wx=>∃ p a5 n5 k5 b5 o5,s1=.pointer (some ⟨p,0,none⟩)∧s9=errV (lossFault A.W B.W)∧Box wx p [.int .i64 (orNone (lossFault A.W B.W) (matAdd A.W B.W)).rows,.int .i64 (orNone (lossFault A.W B.W) (matAdd A.W B.W)).cols,.slice a5 n5 k5] 41∧IntsAt wx a5 n5 k5 b5 o5 (orNone (lossFault A.W B.W) (matAdd A.W B.W)).cells∧(0<n5→wr.heap.size≤b5)∧Below wr.heap.size wr wx)
    case first=>
     go_region_held3 (fun w'=>w'.cell? ⟨b0,o0+t*6,none⟩=some (.int .i64 A.W.rows)∧w'.cell? ⟨b0,o0+t*6+1,none⟩=some (.int .i64 A.W.cols)∧w'.cell? ⟨b0,o0+t*6+2,none⟩=some (.slice pWx1 pWx2 pWx3)∧w'.cell? ⟨b1,o1+t*6,none⟩=some (.int .i64 B.W.rows)∧w'.cell? ⟨b1,o1+t*6+1,none⟩=some (.int .i64 B.W.cols)∧w'.cell? ⟨b1,o1+t*6+2,none⟩=some (.slice qWx1 qWx2 qWx3)) (exact cells33c (by repeat (first|(with_reducible first|exact CW|refine Cells3.alloc ?_ _|refine Cells3.drewN ?_ _|refine Cells3.drew ?_|(refine Cells3.far ?_ ?_ _;rotate_left 1;(first|(dsimp only;omega)|omega|(simp;omega)|simp))|refine Cells3.keep ?_ hb5)|exact CW)) (by repeat (first|(with_reducible first|exact DW|refine Cells3.alloc ?_ _|refine Cells3.drewN ?_ _|refine Cells3.drew ?_|(refine Cells3.far ?_ ?_ _;rotate_left 1;(first|(dsimp only;omega)|omega|(simp;omega)|simp))|refine Cells3.keep ?_ hb5)|exact DW))) ((go_at_call 91;go_must (refine (matAdd_any A.W B.W _ _ _ (MatAt.mk (show IntsAt _ pWx1 pWx2 pWx3 pWx4 pWx5 A.W.cells from yW.k)) (MatAt.mk (show IntsAt _ qWx1 qWx2 qWx3 qWx4 qWx5 B.W.cells from zW.k))).mono ?_);go_must (rintro e w5 ⟨v5,rfl,⟨a5,n5,k5,b5,o5,rfl,hn5,x5⟩,hb5⟩);(try (refine (fun (P1:Box w5 (wr.heap.size) [.int .i64 0,.int .i64 0,.slice none 0 0] 41)=>?_) ?_;rotate_left 1;(with_reducible refine Box.keep ?_ hb5);(focus ((repeat (first|(with_reducible refine (Box.new' _ (wr.heap.size) _ _ ?_);(simp;done))|(with_reducible refine Box.alloc ?_ _)|(with_reducible refine Box.drew ?_)|(with_reducible refine Box.drewN ?_ _)));done));have P1c:=P1.cell;have P1f:=P1.thawed;have P1z:=P1.lt))))
     all_goals (
      go_wp2_with fail
      go_meet
      simp at hn5
      exact ⟨_,a5,n5,k5,b5,o5,rfl,rfl,(by repeat (first|(with_reducible first|(refine (Box.new' _ _ _ _ ?_);(simp;done))|refine Box.alloc ?_ _|refine Box.drewN ?_ _|refine Box.drew ?_|refine Box.set6z ?_ _ _ _ _ _ _|refine Box.set3z ?_ _ _ _|refine Box.fx ?_ _|refine Box.keep ?_ hb5))),(by repeat (first|(with_reducible first|exact x5|refine IntsAt.alloc ?_ _|refine IntsAt.drewN ?_ _|refine IntsAt.drew ?_|(refine IntsAt.set ?_ ?_ _;rotate_left 1;(intro h0;have hq0:=hn5 h0;first|(dsimp only;omega)|omega|(simp;omega)|simp)))|exact x5)),fun h=>by have:=hn5 h;omega,(Below.x1 hb5)⟩)
    case rest=>
    obtain ⟨pA,aA,nA,kA,bA,oA,rfl,rfl,QA,xA,lA,hcA⟩:=hcut
    obtain ⟨wA,rfl⟩:∃ wA,wA=wc:=⟨_,rfl⟩
    replace CB:=CB.keep hcA
    replace DB:=DB.keep hcA
    replace yB:=yB.keep hcA
    replace zB:=zB.keep hcA
    replace hown:=hown.keep hcA
    have hbA:Below w.heap.size w wA:=(Below.y1 hcA hbr)
    have hzA:=hcA.size
    by_cases hf1:lossFault A.W B.W=0
    ·rw [errV_nil hf1]
     rw [orNone_ok hf1] at QA xA
     have QA:=QA
     have QAc:=QA.cell
     have QAf:=QA.thawed
     have QAz:=QA.lt
     have QAk:=lt_add QAz
     have hlA:=xA.lt
     have HF1:=Lib.hid hf1
     clear hf1 CW DW yW zW hbr
     go_upto_region 10 with (fail)
     go_cut [10,9] (fun s1 s9 wx=>∃ p a5 n5 k5 b5 o5,s1=.pointer (some ⟨p,0,none⟩)∧s9=errV (lossFault A.B B.B)∧Box wx p [.int .i64 (orNone (lossFault A.B B.B) (matAdd A.B B.B)).rows,.int .i64 (orNone (lossFault A.B B.B) (matAdd A.B B.B)).cols,.slice a5 n5 k5] 41∧IntsAt wx a5 n5 k5 b5 o5 (orNone (lossFault A.B B.B) (matAdd A.B B.B)).cells∧(0<n5→wA.heap.size≤b5)∧Below wA.heap.size wA wx)
     case first=>
      go_region_held3 (fun w'=>w'.cell? ⟨b0,o0+t*6+ 3,none⟩=some (.int .i64 A.B.rows)∧w'.cell? ⟨b0,o0+t*6+4,none⟩=some (.int .i64 A.B.cols)∧w'.cell? ⟨b0,o0+t*6+5,none⟩=some (.slice pBx1 pBx2 pBx3)∧w'.cell? ⟨b1,o1+t*6+ 3,none⟩=some (.int .i64 B.B.rows)∧w'.cell? ⟨b1,o1+t*6+4,none⟩=some (.int .i64 B.B.cols)∧w'.cell? ⟨b1,o1+t*6+5,none⟩=some (.slice qBx1 qBx2 qBx3)) (exact cells33c (by repeat (first|(with_reducible first|exact CB|refine Cells3.alloc ?_ _|refine Cells3.drewN ?_ _|refine Cells3.drew ?_|(refine Cells3.far ?_ ?_ _;rotate_left 1;(first|(dsimp only;omega)|omega|(simp;omega)|simp))|refine Cells3.keep ?_ hb5)|exact CB)) (by repeat (first|(with_reducible first|exact DB|refine Cells3.alloc ?_ _|refine Cells3.drewN ?_ _|refine Cells3.drew ?_|(refine Cells3.far ?_ ?_ _;rotate_left 1;(first|(dsimp only;omega)|omega|(simp;omega)|simp))|refine Cells3.keep ?_ hb5)|exact DB))) ((go_at_call 91;go_must (refine (matAdd_any A.B B.B _ _ _ (MatAt.mk (show IntsAt _ pBx1 pBx2 pBx3 pBx4 pBx5 A.B.cells from yB.k)) (MatAt.mk (show IntsAt _ qBx1 qBx2 qBx3 qBx4 qBx5 B.B.cells from zB.k))).mono ?_);go_must (rintro e w5 ⟨v5,rfl,⟨a5,n5,k5,b5,o5,rfl,hn5,x5⟩,hb5⟩);(try (refine (fun (P1:Box w5 (wA.heap.size) [.int .i64 0,.int .i64 0,.slice none 0 0] 41)=>?_) ?_;rotate_left 1;(with_reducible refine Box.keep ?_ hb5);(focus ((repeat (first|(with_reducible refine (Box.new' _ (wA.heap.size) _ _ ?_);(simp;done))|(with_reducible refine Box.alloc ?_ _)|(with_reducible refine Box.drew ?_)|(with_reducible refine Box.drewN ?_ _)));done));have P1c:=P1.cell;have P1f:=P1.thawed;have P1z:=P1.lt))))
      all_goals (
       go_wp2_with fail
       go_meet
       simp at hn5
       exact ⟨_,a5,n5,k5,b5,o5,rfl,rfl,(by repeat (first|(with_reducible first|(refine (Box.new' _ _ _ _ ?_);(simp;done))|refine Box.alloc ?_ _|refine Box.drewN ?_ _|refine Box.drew ?_|refine Box.set6z ?_ _ _ _ _ _ _|refine Box.set3z ?_ _ _ _|refine Box.fx ?_ _|refine Box.keep ?_ hb5))),(by repeat (first|(with_reducible first|exact x5|refine IntsAt.alloc ?_ _|refine IntsAt.drewN ?_ _|refine IntsAt.drew ?_|(refine IntsAt.set ?_ ?_ _;rotate_left 1;(intro h0;have hq0:=hn5 h0;first|(dsimp only;omega)|omega|(simp;omega)|simp)))|exact x5)),fun h=>by have:=hn5 h;omega,(Below.x1 hb5)⟩)
     case rest=>
     obtain ⟨pB,aB,nB,kB,bB,oB,rfl,rfl,QB,xB,lB,hcB⟩:=hcut
     obtain ⟨wB,rfl⟩:∃ wB,wB=wc:=⟨_,rfl⟩
     have hkwB:Below wA.heap.size wA wB:=(Below.x1 hcB)
     replace QA:=QA.keep hkwB
     replace QAc:=QA.cell
     replace QAf:=QA.thawed
     replace QAz:=QA.lt
     replace QAk:=lt_add QAz
     replace xA:=xA.keep hkwB
     replace hown:=hown.keep hcB
     have hbB:Below w.heap.size w wB:=(Below.y1 hcB hbA)
     have hzB:=hcB.size
     by_cases hf2:lossFault A.B B.B=0
     ·rw [errV_nil hf2]
      rw [orNone_ok hf2] at QB xB
      have QB:=QB
      have QBc:=QB.cell
      have QBf:=QB.thawed
      have QBz:=QB.lt
      have QBk:=lt_add QBz
      have HF2:=Lib.hid hf2
      have hrowq:∀ r,(Value.slice av t cv).ownBlock=some r→r<wr.heap.size:=fun r hr=>(HOB.out r hr).2
      have HROW:=Lib.hid hrowq
      have hlen:(gatherTo ds es t).length=t:=gatherTo_length ds es t
      have HLEN:=Lib.hid hlen
      have HSUC:Hid (gatherTo ds es (t+1)=gatherTo ds es t++[pairSum A B]):=Lib.hid (by rw [gatherTo_succ,HA.out,HB.out])
      have HNX:Hid (gatherFaultTo ds es (t+1)=0):=Lib.hid (by rw [gather_next HZ.out,← HA.out,← HB.out,pairFault_b HF1.out,HF2.out])
      clear hf2 hrowq hlen CB DB yB zB
      go_wp2_with (at_builtin;go_must (refine wpList_push rfl (.tmp 56) (.tmp 60) 23 rfl Form.grd w.heap.size (newB w.heap.size) 86 i0 (.agg #[.int .i64 0,.int .i64 0,.slice none 0 0,.int .i64 0,.int .i64 0,.slice none 0 0]) 80 Tryz.underlying23 hi hz0 hz1 hz2 rfl (by decide) (.slice av t cv) (gatherTo ds es t) rfl (hown.keep ((Below.refl wB.heap.size wB).alloc (Nat.le_refl _) _)) wB.heap.size 1 [.int .i64 (matAdd A.W B.W).rows,.int .i64 (matAdd A.W B.W).cols,.slice aA nA kA,.int .i64 (matAdd A.B B.B).rows,.int .i64 (matAdd A.B B.B).cols,.slice aB nB kB] 86 (pairSum A B) rfl (Box.new _ _ _) (reads_grd (d:=pairSum A B) (fun h=>⟨by have:=lA h;unfold newB;omega,fun e=>by have:=HROW.out _ e;have:=lA h;omega⟩) (xA.alloc _) (fun h=>⟨by have:=lB h;unfold newB;omega,fun e=>by have:=HROW.out _ e;have:=lB h;omega⟩) (xB.alloc _)) (by rw [HLEN.out];have:=HN.out;omega) (by rw [HLEN.out];unfold maxLen;omega) (by simp;omega) _ rfl ?_))
      intro g cap w' hown7 hgrow hgv hgl
      rw [HLEN.out] at hown7 ⊢
      have hbn:Below w.heap.size w w':=Below.grown (Below.al hbB _) hgrow (by simp;omega) (fun r hr=>(HOB.out r hr).1)
      go_wp2
      go_roundw
      case rel=>exact ⟨t+1,by omega,by go_num,HNX,by rw [HSUC.out];exact hown7,hbn⟩
      case measure=>simp [intOf];omega
     ·rw [errV_err hf2]
      have HST:Hid (gatherFaultTo ds es n0=lossFault A.B B.B):=Lib.hid (by
       have e1:pairFault (gx ds t) (gx es t)=lossFault A.B B.B:=by rw [← HA.out,← HB.out,pairFault_b HF1.out]
       rw [gather_stop hlt HZ.out (by rw [e1];exact hf2),e1])
      have HN2:=Lib.hid hf2
      clear hf2
      go_wp2
      refine bodyPost_ret (v:=.tuple #[.slice none 0 0,.iface 36 (.int .i64 (lossFault A.B B.B))]) (by simp [results,Tryz.results62,go_sem]) rfl ⟨.slice none 0 0,?_,hbB,?_,?_⟩
      ·rw [HST.out,errV_err HN2.out]
      ·exact fun h=>absurd (HST.out.symm.trans h) HN2.out
      ·exact fun _=>rfl
    ·rw [errV_err hf1]
     have HST:Hid (gatherFaultTo ds es n0=lossFault A.W B.W):=Lib.hid (by
      have e1:pairFault (gx ds t) (gx es t)=lossFault A.W B.W:=by rw [← HA.out,← HB.out,pairFault_w hf1]
      rw [gather_stop hlt HZ.out (by rw [e1];exact hf1),e1])
     have HN1:=Lib.hid hf1
     clear hf1
     go_wp2
     refine bodyPost_ret (v:=.tuple #[.slice none 0 0,.iface 36 (.int .i64 (lossFault A.W B.W))]) (by simp [results,Tryz.results62,go_sem]) rfl ⟨.slice none 0 0,?_,hbA,?_,?_⟩
     ·rw [HST.out,errV_err HN1.out]
     ·exact fun h=>absurd (HST.out.symm.trans h) HN1.out
     ·exact fun _=>rfl
   ·obtain rfl:t=n0:=by omega
    obtain ⟨av,cv,bb,hv,hbb,hrow⟩:=hown.row (G:=newB w.heap.size) (fun c hc _=>hc) (fun c hc=>hc)
    rw [gatherTo_length] at hv hbb hrow
    subst hv
    have HR:=Lib.hid hrow
    clear hown hrow
    go_wp2
    refine bodyPost_ret (v:=.tuple #[.slice av t cv,.nilIface]) (by simp [results,Tryz.results62,go_sem]) rfl ⟨.slice av t cv,?_,hbr,?_,?_⟩
    ·rw [errV_nil HZ.out]
    ·exact fun _=>⟨_,_,_,rfl,HR.out⟩
    ·exact fun h=>absurd HZ.out h
 ·have hne:((n0:Int) != (n1:Int))=true:=by simp;omega
  have HGF:Hid (gatherFault ds es=2):=Lib.hid (by unfold gatherFault;rw [if_neg (by rw [HL0.out,HL1.out];exact hl)])
  rw [HGF.out,errV_err (by decide)]
  clear hl
  go_enter Tryz.func62,Tryz.ntmps62
  go_wp2
  refine bodyPost_ret (v:=.tuple #[.slice none 0 0,.iface 36 (.int .i64 2)]) (by simp [results,Tryz.results62,go_sem]) rfl ⟨.slice none 0 0,?_,Below.refl _ _,?_,?_⟩
  ·rfl
  ·exact fun h=>absurd h (by decide)
  ·exact fun _=>rfl
end Go.Proofs.YtchngeagnlngaaaGreatDoor
end
