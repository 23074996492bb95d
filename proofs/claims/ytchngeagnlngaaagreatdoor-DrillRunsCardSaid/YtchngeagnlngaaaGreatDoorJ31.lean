/- Texts joined: Back2. -/
import Derived.Test.YtchngeagnlngaaaGreatDoorJ30
import Derived.Test.YtchngeagnlngaaaGreatDoorJ29
import Derived.Test.YtchngeagnlngaaaGreatDoorJ28
import Derived.Test.YtchngeagnlngaaaGreatDoorJ24
import Derived.Test.YtchngeagnlngaaaGreatDoorJ23
set_option linter.unusedVariables false
set_option linter.unusedSimpArgs false
set_option linter.unusedSectionVars false
section
namespace Go.Proofs.YtchngeagnlngaaaGreatDoor
open Go.RowKit Go.Shelf Gal
attribute [local go_sem] Oper.semAt_some
set_option maxRecDepth 100000
set_option maxHeartbeats 4000000
def BackEnd (w:World) (ls:List Lay) (ss:List Mat) (g:Mat) (n:Nat) (f:Int) (e:Ending) (w':World):Prop:=
 ∃ u v,e=.returned (.tuple #[u,v,errV f])∧Below w.heap.size w w'∧(f=0→MatNew w.heap.size w' u (bM ls ss g n n)∧∃ a k b,v=.slice a n k∧RowAt Form.grd w' (newB w.heap.size) a n k b 0 (bDs ls ss g n)) ∧
  (f≠0→u=.agg #[.int .i64 0,.int .i64 0,.slice none 0 0]∧v=.slice none 0 0)
theorem backward_any (a:Option Addr) (n k:Nat) (w:World) :
  Calls Tryz.prog 89 #[.slice a n k] w fun e w'=>e=.returned (.func (.func 104) #[] #[.pointer (some ⟨w.heap.size,0,none⟩)])∧w.alloc (.cells #[.slice a n k] 22)=w':=by
 go_enter Tryz.func89,Tryz.ntmps89
 go_wp2
 go_ret
 exact ⟨rfl,rfl⟩
theorem netBack_walk (ls:List Lay) (ss:List Mat) (g:Mat) (F G:Nat→Prop) (a0 a1:Option Addr) (n n1 k0 k1 b0 b1 o0 o1:Nat) (vg:Value) (w:World) (h0:RowAt Form.lay w F a0 n k0 b0 o0 ls) (h1:RowAt Form.mat w G a1 n1 k1 b1 o1 ss) (hg:MatAt w vg g)
  (hgl:g.cells.length*8≤140737488355328) (hn:n≤12) (hn1:n1=n+1) (hgf:n=0→g.fault=0) :
  Calls Tryz.prog 61 #[.slice a0 n k0,.slice a1 n1 k1,vg] w (BackEnd w ls ss g n (bF ls ss g n n)):=by
 obtain ⟨ag,ng,kg,bg,og,rfl,xg⟩:=hg
 have HGF:=Lib.hid hgf
 have hneq:((n1:Int) != (n:Int)+1)=false:=by simp;omega
 have HN1:=Lib.hid hn1
 have HG:=Lib.hid hgl
 have hg1:((n:Int) > 12)=False:=by simp;omega
 clear hgf hn1 hgl
 refine (callsIn_wide (n:=6)).1 ?_
 refine callsIn_of_wp_marks Tryz.func61 rfl trivial ?_ rfl
 simp only [Tryz.ntmps61,List.size_toArray,List.length_cons,List.length_nil,Nat.reduceAdd,Nat.reduceSub,Array.replicate_succ,Array.replicate_zero,List.push_toArray,List.append_toArray,List.nil_append,List.cons_append]
 gi_wp2_with fail
 refine ⟨trivial,?_⟩
 refine (callsIn_wide.2 (matCheck_any g.rows g.cols ag ng kg bg og g.cells _ xg.k)).mono ?_
 rintro e wA ⟨rfl,hbA⟩
 have P4:=Box.keep (show Box _ w.heap.size [.slice a1 n1 k1] 87 from Box.x0) hbA
 have P4c:=P4.cell
 have P4f:=P4.thawed
 have P4z:=P4.lt
 have P4k:=lt_add P4z
 have P5:=Box.keep (show Box _ (w.heap.size+1) [.int .i64 g.rows,.int .i64 g.cols,.slice ag ng kg] 41 from Box.x0) hbA
 have P5c:=P5.cell
 have P5f:=P5.thawed
 have P5z:=P5.lt
 have P5k:=lt_add P5z
 have P6:=Box.keep (show Box _ (w.heap.size+1+1) [.int .i64 0,.int .i64 0,.slice none 0 0] 41 from Box.x0) hbA
 have P6c:=P6.cell
 have P6f:=P6.thawed
 have P6z:=P6.lt
 have P6k:=lt_add P6z
 have P7:=Box.keep (show Box _ (w.heap.size+1+1+1) [.slice none 0 0] 23 from Box.x0) hbA
 have P7c:=P7.cell
 have P7f:=P7.thawed
 have P7z:=P7.lt
 have P7k:=lt_add P7z
 have P8:=Box.keep (show Box _ (w.heap.size+1+1+1+1) [.nilIface] 33 from Box.x0) hbA
 have P8c:=P8.cell
 have P8f:=P8.thawed
 have P8z:=P8.lt
 have P8k:=lt_add P8z
 have hbwA:Below w.heap.size w wA:=(Below.x1 hbA)
 have xA:=xg.keep hbwA
 clear hbA
 obtain ⟨i0,hi,hz0,hz1,hz2⟩:=info_parts info_grad
 have hmk:=fun W=>run_make_rowN (P:=Tryz.prog) 23 86 i0 _ Tryz.underlying23 hi hz0 .i64 .i64 n n (n:Int) (n:Int) rfl rfl (Nat.le_refl _) (by rw [hz2];omega) (by omega) W
 rw [hz1] at hmk
 obtain ⟨cs0,hcs0,hcl0⟩:∃ cs0:List Value,madeCells (Value.agg #[.int .i64 0,.int .i64 0,.slice none 0 0,.int .i64 0,.int .i64 0,.slice none 0 0]).cells (n*6)=cs0.toArray∧cs0.length=n*6:=⟨_,(Array.toArray_toList).symm,by rw [Array.length_toList,size_madeCells]⟩
 rw [hcs0] at hmk
 have HCL:=Lib.hid hcl0
 clear hcs0 hcl0
 have hm0:=h0.max
 have hzw:w.heap.size+1+1+1+1<wA.heap.size:=P8z
 rcases Nat.eq_zero_or_pos n with hz|hz
 ·have g0:((n:Int) == 0)=true:=by simp [hz]
  have hE:errV (matFault g.rows g.cols g.cells)=.nilIface:=errV_nil (HGF.out hz)
  rw [hE]
  have HZ:=Lib.hid hz
  clear hE hz
  gi_wp2_with fail
  refine ⟨trivial,?_⟩
  refine (callsIn_wide.2 (netClone_any g _ _ (MatAt.mk (show IntsAt _ ag ng kg bg og g.cells from xA.k)) HG.out)).mono ?_
  rintro e wB ⟨v,rfl,⟨ac,nc,kc,bc,oc,rfl,hnc,xc⟩,hbB⟩
  have hkwB:Below wA.heap.size wA wB:=(Below.x1 hbB)
  replace P4:=P4.keep hkwB
  replace P4c:=P4.cell
  replace P4f:=P4.thawed
  replace P4z:=P4.lt
  replace P4k:=lt_add P4z
  replace P5:=P5.keep hkwB
  replace P5c:=P5.cell
  replace P5f:=P5.thawed
  replace P5z:=P5.lt
  replace P5k:=lt_add P5z
  replace P6:=P6.keep hkwB
  replace P6c:=P6.cell
  replace P6f:=P6.thawed
  replace P6z:=P6.lt
  replace P6k:=lt_add P6z
  replace P7:=P7.keep hkwB
  replace P7c:=P7.cell
  replace P7f:=P7.thawed
  replace P7z:=P7.lt
  replace P7k:=lt_add P7z
  replace P8:=P8.keep hkwB
  replace P8c:=P8.cell
  replace P8f:=P8.thawed
  replace P8z:=P8.lt
  replace P8k:=lt_add P8z
  have hbwB:Below w.heap.size w wB:=(Below.y1 hbB hbwA)
  gi_wp2_with fail
  refine ⟨trivial,?_⟩
  refine (callsIn_wide.2 (backward_any a0 n k0 _)).mono ?_
  rintro e wC ⟨rfl,hwC⟩
  subst hwC
  gi_wp2_with fail
  obtain ⟨wl,hwl,L4,L5,L6,L7,L8,Lo,L10,Lq,xl,hbl⟩:∃ wl,((((((wB.setCell ⟨w.heap.size+1,0,none⟩ (.int .i64 g.rows)).setCell ⟨w.heap.size+1,1,none⟩ (.int .i64 g.cols)).setCell ⟨w.heap.size+1,2,none⟩ (.slice ac nc kc)).alloc (.cells cs0.toArray 86)).alloc (.cells #[.slice (some ⟨wB.heap.size,0,none⟩) n n] 23)).alloc (.cells #[.slice a0 n k0] 22))=wl ∧
    Box wl w.heap.size [.slice a1 n1 k1] 87∧Box wl (w.heap.size+1) [.int .i64 g.rows,.int .i64 g.cols,.slice ac nc kc] 41∧Box wl (w.heap.size+1+1) [.int .i64 0,.int .i64 0,.slice none 0 0] 41∧Box wl (w.heap.size+1+1+1) [.slice none 0 0] 23∧Box wl (w.heap.size+1+1+1+1) [.nilIface] 33 ∧
    Box wl wB.heap.size cs0 86∧Box wl (wB.heap.size+1) [.slice (some ⟨wB.heap.size,0,none⟩) n n] 23∧Box wl (wB.heap.size+1+1) [.slice a0 n k0] 22∧IntsAt wl ac nc kc bc oc g.cells∧Below w.heap.size w wl:=by
   have hzB:=hbB.size
   have hzo:(((wB.setCell ⟨w.heap.size+1,0,none⟩ (.int .i64 g.rows)).setCell ⟨w.heap.size+1,1,none⟩ (.int .i64 g.cols)).setCell ⟨w.heap.size+1,2,none⟩ (.slice ac nc kc)).heap.size=wB.heap.size:=by simp
   refine ⟨_,rfl,P4.k,((((P5.set 0 _).set 1 _).set 2 _).alloc _ |>.alloc _).alloc _,P6.k,P7.k,P8.k,Box.x0,Box.x0,Box.x0,(by repeat (first|(with_reducible first|exact xc|refine IntsAt.alloc ?_ _|refine IntsAt.drewN ?_ _|refine IntsAt.drew ?_|(refine IntsAt.set ?_ ?_ _;rotate_left 1;(intro h0;have hq0:=hnc h0;first|(dsimp only;omega)|omega|(simp;omega)|simp)))|exact xc)),(Below.y0 hbwB)⟩
  rw [hwl]
  have hzB:=hbB.size
  have HNC:Hid (0<nc→newPQ (w.heap.size+1+1+1+1+1) (w.heap.size+1) wB.heap.size bc):=Lib.hid (fun h=>⟨by have:=hnc h;omega,by have:=hnc h;omega,by have:=xc.lt h;omega⟩)
  have hlq:wB.heap.size+1+1<wl.heap.size:=Lq.lt
  clear hwl P4 P4c P4f P4z P4k P5 P5c P5f P5z P5k P6 P6c P6f P6z P6k P7 P7c P7f P7z P7k P8 P8c P8f P8z P8k hmk xA hbB hbwB xc hnc
  have HB0:Hid (0<n→b0<w.heap.size):=Lib.hid h0.lt
  have hmx:Tryz.prog.follows .mixedOrders=true:=by kernel_rfl
  refine wpIn_range_boxed rfl (by decide) (gf:=104) (lb:=#[.pointer (some ⟨wB.heap.size+1+1,0,none⟩)]) rfl trivial (enters_of Tryz.func104 (by kernel_rfl) rfl)
   (back1_stops 5 (by decide) (wB.heap.size+1+1) (fun k=>k=w.heap.size+1∨k=wB.heap.size∨wl.heap.size≤k) ls F a0 n k0 b0 o0 wl Lq (by rintro (e|e|e) <;> omega) (h0.keep hbl) (fun h=>by have:=HB0.out h;rintro (e|e|e) <;> omega))
   (fun h k=>h.trans k) (fun W l o o' hl _ _ _=>⟨rfl,rfl,rfl,by simp [World.putObj],fun k hk hS=>World.putObj_heap_other (fun e=>hS (by subst e;exact Or.inr (Or.inr hl)))⟩) (Below.refl _ _) (fun _=>rfl)
   (fun (pre:List (Fin n)) W=>BackSt 41 86 ls ss g n wl (w.heap.size+1+1+1+1+1) (w.heap.size+1) wB.heap.size (pre.map fun (x:Fin n)=>x.val) W)
   (fun _ _=>False) (fun (_:Fin n) _ _ _=>False)
   (fun s A B row hs hg hr=>backSt_grown hs hg hr) (fun s A B row hs hg hr=>hs) (fun x b s A B row hs hg hr=>hs)
   ⟨Far.refl _ _,OkTo.nil,⟨ac,nc,kc,bc,oc,L5,xl,HNC.out⟩,⟨cs0,Lo,HCL.out,fun j d hj _=>by simp [gone] at hj⟩⟩ ?assign ?body ?done ?stop
  case assign=>
   intro l pre x W hst hlen
   exact absurd hlen (by have:=HZ.out;omega)
  case body=>
   rintro l pre x b W h hlen
   exact h.elim
  case done=>
   intro D pre W hD hpre hst hDh
   rw [hpre] at hst
   obtain ⟨hF0,⟨av,mv,cv,bv,ov,Q5,yg,hnv⟩,hrow⟩:=backSt_done hst (by unfold maxLen;omega) (by omega)
   have HF0:=Lib.hid hF0
   have Q6:=L6.farS hst.far (by rintro (e|e) <;> omega)
   have Q7:=L7.farS hst.far (by rintro (e|e) <;> omega)
   have Q8:=L8.farS hst.far (by rintro (e|e) <;> omega)
   have Q10:=L10.farS hst.far (by rintro (e|e) <;> omega)
   have hbW:Below w.heap.size w W:=Far.toBelow hbl hst.far (by omega) (by rintro k (e|e) <;> omega)
   have hzw':w.heap.size+1+1+1+1<wB.heap.size:=by omega
   have Q5:=Q5
   have Q5c:=Q5.cell
   have Q5f:=Q5.thawed
   have Q5z:=Q5.lt
   have Q5k:=lt_add Q5z
   have Q6:=Q6
   have Q6c:=Q6.cell
   have Q6f:=Q6.thawed
   have Q6z:=Q6.lt
   have Q6k:=lt_add Q6z
   have Q7:=Q7
   have Q7c:=Q7.cell
   have Q7f:=Q7.thawed
   have Q7z:=Q7.lt
   have Q7k:=lt_add Q7z
   have Q8:=Q8
   have Q8c:=Q8.cell
   have Q8f:=Q8.thawed
   have Q8z:=Q8.lt
   have Q8k:=lt_add Q8z
   have Q10:=Q10
   have Q10c:=Q10.cell
   have Q10f:=Q10.thawed
   have Q10z:=Q10.lt
   have Q10k:=lt_add Q10z
   clear L4 L5 L6 L7 L8 Lo L10 Lq xl hst hF0
   gi_wp2
   gi_region_with_o fail
   all_goals (
    gi_wp2
    have hfe:Far (fun b=>b=w.heap.size+1+1∨b=w.heap.size+1+1+1∨b=w.heap.size+1+1+1+1) W W:=Far.refl _ _
    obtain ⟨We,hWe,R6,R7,R8,hfe⟩:∃ We,(((((W.setCell ⟨w.heap.size+1+1,0,none⟩ (.int .i64 (bM ls ss g n n).rows)).setCell ⟨w.heap.size+1+1,1,none⟩ (.int .i64 (bM ls ss g n n).cols)).setCell ⟨w.heap.size+1+1,2,none⟩ (.slice av mv cv)).setCell ⟨w.heap.size+1+1+1,0,none⟩ (.slice (some ⟨wB.heap.size,0,none⟩) n n)).setCell ⟨w.heap.size+1+1+1+1,0,none⟩ .nilIface).drew=We ∧
      Box We (w.heap.size+1+1) [.int .i64 (bM ls ss g n n).rows,.int .i64 (bM ls ss g n n).cols,.slice av mv cv] 41∧Box We (w.heap.size+1+1+1) [.slice (some ⟨wB.heap.size,0,none⟩) n n] 23∧Box We (w.heap.size+1+1+1+1) [.nilIface] 33∧Far (fun b=>b=w.heap.size+1+1∨b=w.heap.size+1+1+1∨b=w.heap.size+1+1+1+1) W We:=
     ⟨_,rfl,(by repeat (first|(with_reducible first|exact Q6|refine Box.alloc ?_ _|refine Box.drewN ?_ _|refine Box.drew ?_|refine Box.set6z ?_ _ _ _ _ _ _|refine Box.set3z ?_ _ _ _|refine Box.fx ?_ _)|exact Q6)),Box.drew (Box.far (Box.set (show Box _ (w.heap.size+1+1+1) [.slice none 0 0] 23 from Q7.k) 0 _) (by dsimp only;omega) _),Box.drew (Box.set (show Box _ (w.heap.size+1+1+1+1) [.nilIface] 33 from Q8.k) 0 _),(((((hfe.st (fun _=>Or.inl rfl) _).st (fun _=>Or.inl rfl) _).st (fun _=>Or.inl rfl) _).st (fun _=>Or.inr (Or.inl rfl)) _).st (fun _=>Or.inr (Or.inr rfl)) _).drew⟩
    rw [hWe]
    have hDl:D<W.heap.size:=(Array.getElem?_eq_some_iff.1 hDh).1
    have hDe:=(hfe.block D hDl (by rintro (e|e|e) <;> omega)).trans hDh
    have yR:=yg.farS hfe (fun h=>by have:=hnv h;rintro (e|e|e) <;> omega)
    have rR:=RowAt.farS hrow hfe (fun b hb _=>by unfold newB at hb;rintro (e|e|e) <;> omega)
    have hbe:=Far.toBelow hbW hfe (by omega) (by rintro k (e|e|e) <;> omega)
    refine ⟨by simp,.inl ⟨_,_,rfl,run_takeDeferred hDe,?_⟩⟩
    have Z6:=R6.block (World.putObj_heap_other (r:=D) (o:=.deferred none) (by omega))
    have Z7:=R7.block (World.putObj_heap_other (r:=D) (o:=.deferred none) (by omega))
    have Z8:=R8.block (World.putObj_heap_other (r:=D) (o:=.deferred none) (by omega))
    refine ⟨.tuple #[.agg #[.int .i64 (bM ls ss g n n).rows,.int .i64 (bM ls ss g n n).cols,.slice av mv cv],.slice (some ⟨wB.heap.size,0,none⟩) n n,.nilIface],by simp [results,Tryz.results61,go_sem,Z6.cell,Z7.cell,Z8.cell],_,_,by rw [HF0.out];rfl,hbe.trans (belowK_b (w:=w) (Nat.le_refl _) We D _ _ (by omega) hDe rfl rfl),fun _=>⟨⟨av,mv,cv,bv,ov,rfl,fun h=>by have:=hnv h;omega,ints_grown yR (grownBy_putObj' _ _ _) (fun r e=>by cases e;exact ⟨_,hDe,rfl⟩)⟩,_,_,_,rfl,(row_grown rR (grownBy_putObj' _ _ _) (fun r e=>by cases e;exact ⟨_,hDe,rfl⟩)).wide (fun b hb _=>by unfold newB at *;omega)⟩,fun h=>absurd HF0.out h⟩)
  case stop=>
   rintro D pre W hD hp h hDh
   exact h.elim
 ·have g0 : ((n:Int) == 0)=false:=by simp;omega
  gi_wp2_with fail
  refine ⟨trivial,?_⟩
  refine (callsIn_wide.2 (netClone_any g _ _ (MatAt.mk (show IntsAt _ ag ng kg bg og g.cells from xA.k)) HG.out)).mono ?_
  rintro e wB ⟨v,rfl,⟨ac,nc,kc,bc,oc,rfl,hnc,xc⟩,hbB⟩
  have hkwB:Below wA.heap.size wA wB:=(Below.x1 hbB)
  replace P4:=P4.keep hkwB
  replace P4c:=P4.cell
  replace P4f:=P4.thawed
  replace P4z:=P4.lt
  replace P4k:=lt_add P4z
  replace P5:=P5.keep hkwB
  replace P5c:=P5.cell
  replace P5f:=P5.thawed
  replace P5z:=P5.lt
  replace P5k:=lt_add P5z
  replace P6:=P6.keep hkwB
  replace P6c:=P6.cell
  replace P6f:=P6.thawed
  replace P6z:=P6.lt
  replace P6k:=lt_add P6z
  replace P7:=P7.keep hkwB
  replace P7c:=P7.cell
  replace P7f:=P7.thawed
  replace P7z:=P7.lt
  replace P7k:=lt_add P7z
  replace P8:=P8.keep hkwB
  replace P8c:=P8.cell
  replace P8f:=P8.thawed
  replace P8z:=P8.lt
  replace P8k:=lt_add P8z
  have hbwB:Below w.heap.size w wB:=(Below.y1 hbB hbwA)
  gi_wp2_with fail
  refine ⟨trivial,?_⟩
  refine (callsIn_wide.2 (backward_any a0 n k0 _)).mono ?_
  rintro e wC ⟨rfl,hwC⟩
  subst hwC
  gi_wp2_with fail
  obtain ⟨wl,hwl,L4,L5,L6,L7,L8,Lo,L10,Lq,xl,hbl⟩:∃ wl,((((((wB.setCell ⟨w.heap.size+1,0,none⟩ (.int .i64 g.rows)).setCell ⟨w.heap.size+1,1,none⟩ (.int .i64 g.cols)).setCell ⟨w.heap.size+1,2,none⟩ (.slice ac nc kc)).alloc (.cells cs0.toArray 86)).alloc (.cells #[.slice (some ⟨wB.heap.size,0,none⟩) n n] 23)).alloc (.cells #[.slice a0 n k0] 22))=wl ∧
    Box wl w.heap.size [.slice a1 n1 k1] 87∧Box wl (w.heap.size+1) [.int .i64 g.rows,.int .i64 g.cols,.slice ac nc kc] 41∧Box wl (w.heap.size+1+1) [.int .i64 0,.int .i64 0,.slice none 0 0] 41∧Box wl (w.heap.size+1+1+1) [.slice none 0 0] 23∧Box wl (w.heap.size+1+1+1+1) [.nilIface] 33 ∧
    Box wl wB.heap.size cs0 86∧Box wl (wB.heap.size+1) [.slice (some ⟨wB.heap.size,0,none⟩) n n] 23∧Box wl (wB.heap.size+1+1) [.slice a0 n k0] 22∧IntsAt wl ac nc kc bc oc g.cells∧Below w.heap.size w wl:=by
   have hzB:=hbB.size
   have hzo:(((wB.setCell ⟨w.heap.size+1,0,none⟩ (.int .i64 g.rows)).setCell ⟨w.heap.size+1,1,none⟩ (.int .i64 g.cols)).setCell ⟨w.heap.size+1,2,none⟩ (.slice ac nc kc)).heap.size=wB.heap.size:=by simp
   refine ⟨_,rfl,P4.k,((((P5.set 0 _).set 1 _).set 2 _).alloc _ |>.alloc _).alloc _,P6.k,P7.k,P8.k,Box.x0,Box.x0,Box.x0,(by repeat (first|(with_reducible first|exact xc|refine IntsAt.alloc ?_ _|refine IntsAt.drewN ?_ _|refine IntsAt.drew ?_|(refine IntsAt.set ?_ ?_ _;rotate_left 1;(intro h0;have hq0:=hnc h0;first|(dsimp only;omega)|omega|(simp;omega)|simp)))|exact xc)),(Below.y0 hbwB)⟩
  rw [hwl]
  have hzB:=hbB.size
  have HNC:Hid (0<nc→newPQ (w.heap.size+1+1+1+1+1) (w.heap.size+1) wB.heap.size bc):=Lib.hid (fun h=>⟨by have:=hnc h;omega,by have:=hnc h;omega,by have:=xc.lt h;omega⟩)
  have hlq:wB.heap.size+1+1<wl.heap.size:=Lq.lt
  clear hwl P4 P4c P4f P4z P4k P5 P5c P5f P5z P5k P6 P6c P6f P6z P6k P7 P7c P7f P7z P7k P8 P8c P8f P8z P8k hmk xA hbB hbwB xc hnc
  have HB0:Hid (0<n→b0<w.heap.size):=Lib.hid h0.lt
  have hmx:Tryz.prog.follows .mixedOrders=true:=by kernel_rfl
  refine wpIn_range_boxed rfl (by decide) (gf:=104) (lb:=#[.pointer (some ⟨wB.heap.size+1+1,0,none⟩)]) rfl trivial (enters_of Tryz.func104 (by kernel_rfl) rfl)
   (back1_stops 5 (by decide) (wB.heap.size+1+1) (fun k=>k=w.heap.size+1∨k=wB.heap.size∨wl.heap.size≤k) ls F a0 n k0 b0 o0 wl Lq (by rintro (e|e|e) <;> omega) (h0.keep hbl) (fun h=>by have:=HB0.out h;rintro (e|e|e) <;> omega))
   (fun h k=>h.trans k) (fun W l o o' hl _ _ _=>⟨rfl,rfl,rfl,by simp [World.putObj],fun k hk hS=>World.putObj_heap_other (fun e=>hS (by subst e;exact Or.inr (Or.inr hl)))⟩) (Below.refl _ _) (fun _=>rfl)
   (fun pre W=>BackSt 41 86 ls ss g n wl (w.heap.size+1+1+1+1+1) (w.heap.size+1) wB.heap.size (pre.map fun (x:Fin n)=>x.val) W)
   (fun pre W=>∃ p x,pre=p++[x]∧OkTo ls ss g (p.map fun x=>x.val)∧(lx ls x.val).backFault (mx ss x.val) (gone ls ss g (p.map fun x=>x.val)).1≠0∧Below w.heap.size w W∧Box W (w.heap.size+1+1) [.int .i64 0,.int .i64 0,.slice none 0 0] 41∧Box W (w.heap.size+1+1+1) [.slice none 0 0] 23∧Box W (w.heap.size+1+1+1+1) [.iface 36 (.int .i64 ((lx ls x.val).backFault (mx ss x.val) (gone ls ss g (p.map fun x=>x.val)).1))] 33)
   (fun x b pre W=>BackSt 41 86 ls ss g n wl (w.heap.size+1+1+1+1+1) (w.heap.size+1) wB.heap.size (pre.map fun x=>x.val) W∧∃ q12 a4 n4 k4 b4 o4 a5 n5 k5 b5 o5,b={ tmps:=#[.slice a0 n k0,.slice a1 n1 k1,.agg #[.int .i64 g.rows,.int .i64 g.cols,.slice ag ng kg],undef,.pointer (some ⟨w.heap.size,0,none⟩),.pointer (some ⟨w.heap.size+1,0,none⟩),.pointer (some ⟨w.heap.size+1+1,0,none⟩),.pointer (some ⟨w.heap.size+1+1+1,0,none⟩),.pointer (some ⟨w.heap.size+1+1+1+1,0,none⟩),errV (matFault g.rows g.cols g.cells),.pointer (some ⟨wB.heap.size+1,0,none⟩),.int .i64 x.val,.pointer (some ⟨q12,0,none⟩),undef,undef,undef,.slice a0 n k0,.int .i64 n,.bool false,undef,undef,.slice a1 n1 k1,.int .i64 n1,.slice a0 n k0,.int .i64 n,.int .i64 ((n:Int)+1),.bool false,undef,undef,.agg #[.int .i64 g.rows,.int .i64 g.cols,.slice ag ng kg],errV (matFault g.rows g.cols g.cells),.slice a0 n k0,.int .i64 n,.bool false,.bool false,undef,undef,.bool false,undef,undef,.agg #[.int .i64 g.rows,.int .i64 g.cols,.slice ag ng kg],.agg #[.int .i64 g.rows,.int .i64 g.cols,.slice ac nc kc],.slice a0 n k0,.int .i64 n,.slice (some ⟨wB.heap.size,0,none⟩) n n,.slice a0 n k0,.func (.func 104) #[] #[.pointer (some ⟨wB.heap.size+1+1,0,none⟩)],.int .i64 x.val,.agg #[.int .i64 (lx ls x.val).kind,.int .i64 (lx ls x.val).W.rows,.int .i64 (lx ls x.val).W.cols,.slice a4 n4 k4,.int .i64 (lx ls x.val).B.rows,.int .i64 (lx ls x.val).B.cols,.slice a5 n5 k5],undef,undef,undef,undef,undef,undef,undef,undef,undef,undef,undef,undef,undef,undef,undef,undef,undef,undef,undef,undef,undef,undef],defers:=[] }∧Box W q12 [.int .i64 (lx ls x.val).kind,.int .i64 (lx ls x.val).W.rows,.int .i64 (lx ls x.val).W.cols,.slice a4 n4 k4,.int .i64 (lx ls x.val).B.rows,.int .i64 (lx ls x.val).B.cols,.slice a5 n5 k5] 84∧IntsAt w a4 n4 k4 b4 o4 (lx ls x.val).W.cells∧IntsAt w a5 n5 k5 b5 o5 (lx ls x.val).B.cells∧wl.heap.size≤q12)
   (fun s A B row hs hg hr=>backSt_grown hs hg hr)
   (fun s A B row hs hg hr=>by
    obtain ⟨p,x,e,h1,h2,h3,h4,h5,h6⟩:=hs
    exact ⟨p,x,e,h1,h2,below_grown' h3 hg (fun r hr'=>by have:=(hr r hr').1;omega) (by have:=h4.lt;omega),box_grown h4 hg (fun r e=>(hr r e).2),box_grown h5 hg (fun r e=>(hr r e).2),box_grown h6 hg (fun r e=>(hr r e).2)⟩)
   (fun x b s A B row hs hg hr=>by
    obtain ⟨h1,q12,a4,n4,k4,b4,o4,a5,n5,k5,b5,o5,e,h2,h3⟩:=hs
    exact ⟨backSt_grown h1 hg hr,q12,a4,n4,k4,b4,o4,a5,n5,k5,b5,o5,e,box_grown h2 hg (fun r e=>(hr r e).2),h3⟩)
   ⟨Far.refl _ _,OkTo.nil,⟨ac,nc,kc,bc,oc,L5,xl,HNC.out⟩,⟨cs0,Lo,HCL.out,fun j d hj _=>by simp [gone] at hj⟩⟩ ?assign ?body ?done ?stop
  case assign=>
   intro l pre x W hst hlen
   have hN:0<n:=by have:=x.isLt;omega
   obtain ⟨a4,n4,k4,b4,o4,a5,n5,k5,b5,o5,c0,c1,c2,c3,c4,c5,c6,x4,x5⟩:=lay_cells h0 x.isLt
   have hV:=layCV_eq (cell_keep hbl c0) (cell_keep hbl c1) (cell_keep hbl c2) (cell_keep hbl c3) (cell_keep hbl c4) (cell_keep hbl c5) (cell_keep hbl c6)
   rw [hV]
   clear hV c0 c1 c2 c3 c4 c5 c6
   gi_wp2
   refine ⟨keepsFrom_far (S:=fun _=>False) ((Far.refl _ _).al _) (fun _ h=>h.elim),((Far.refl _ _).al _),backSt_alloc hst _,W.heap.size,a4,n4,k4,b4,o4,a5,n5,k5,b5,o5,rfl,Box.new _ _ _,x4,x5,hst.far.size⟩
  case body=>
   rintro l pre x b W ⟨hst,q12,a4,n4,k4,b4,o4,a5,n5,k5,b5,o5,rfl,P12,y4,y5,hq12⟩ hlen
   have hxn:=x.isLt
   have hN:0<n:=by omega
   have hzw':w.heap.size+1+1+1+1<wB.heap.size:=by omega
   have hbW:Below w.heap.size w W:=Far.toBelow hbl hst.far (by omega) (by rintro k (e|e) <;> omega)
   obtain ⟨av,mv,cv,bv,ov,Q5,yg,hnv⟩:=hst.cur
   obtain ⟨cs,Qo,hcl,hcs⟩:=hst.outs
   have Q4:=L4.farS hst.far (by rintro (e|e) <;> omega)
   have Q6:=L6.farS hst.far (by rintro (e|e) <;> omega)
   have Q7:=L7.farS hst.far (by rintro (e|e) <;> omega)
   have Q8:=L8.farS hst.far (by rintro (e|e) <;> omega)
   have Q10:=L10.farS hst.far (by rintro (e|e) <;> omega)
   have hn1:=HN1.out
   obtain rfl:=h1.ptr (by omega)
   obtain ⟨am,nm,km,bm,om,m0,m1,m2,_,ym⟩:=h1.mats.cell x.val (by omega)
   replace m0:=cell_keep hbW m0
   replace m1:=cell_keep hbW m1
   replace m2:=cell_keep hbW m2
   replace ym:=ym.keep hbW
   replace y4:=y4.keep hbW
   replace y5:=y5.keep hbW
   have HCS:=Lib.hid hcs
   have HCL:=Lib.hid hcl
   have HNV:=Lib.hid hnv
   have HST:=Lib.hid hst
   have HLEN:=Lib.hid hlen
   obtain ⟨L,hL⟩:∃ L,L=lx ls x.val:=⟨_,rfl⟩
   obtain ⟨M,hM⟩:∃ M,M=mx ss x.val:=⟨_,rfl⟩
   obtain ⟨G,hG⟩:∃ G,G=(gone ls ss g (pre.map fun x=>x.val)).1:=⟨_,rfl⟩
   rw [← hL] at P12 y4 y5
   rw [← hM] at m0 m1 ym
   rw [← hG] at Q5 yg
   rw [← hL]
   have HL:=Lib.hid hL
   have HM:=Lib.hid hM
   have HG2:=Lib.hid hG
   have hx0:(0:Int)≤(x.val:Int):=by omega
   have hx1:(x.val:Int)<(n1:Int):=by omega
   clear hL hM hG hcs hcl hnv hst hlen hn1
   have CM:Cells3 W b1 (o1+x.val*3) _ _ _:=⟨m0,m1,m2⟩
   clear m0 m1 m2 L4 L5 L6 L7 L8 Lo L10 Lq xl h0 h1
   have hz12:q12<W.heap.size:=P12.lt
   have hz4:w.heap.size<W.heap.size:=Q4.lt
   have hz5:w.heap.size+1<W.heap.size:=Q5.lt
   have hzm:b1<W.heap.size:=World.block_lt_of_cell? _ _ CM.c0
   gi_wp2
   obtain ⟨Q0,hQ0⟩:∃ Q0:Exit→Act→World→Prop,Q0=fun e b' W'=>e=.normal∧∃ p13 p14 a9 n9 k9 b9 o9 aA nA kA bA oA aB nB kB bB' oB,∃ r49 r50 r51 r52 r53 r54 r55 r56 r57 r58 r59:Value,b'={ tmps:=#[.slice a0 n k0,.slice (some ⟨b1,o1,none⟩) n1 k1,.agg #[.int .i64 g.rows,.int .i64 g.cols,.slice ag ng kg],undef,.pointer (some ⟨w.heap.size,0,none⟩),.pointer (some ⟨w.heap.size+1,0,none⟩),.pointer (some ⟨w.heap.size+1+1,0,none⟩),.pointer (some ⟨w.heap.size+1+1+1,0,none⟩),.pointer (some ⟨w.heap.size+1+1+1+1,0,none⟩),errV (matFault g.rows g.cols g.cells),.pointer (some ⟨wB.heap.size+1,0,none⟩),.int .i64 x.val,.pointer (some ⟨q12,0,none⟩),.pointer (some ⟨p13,0,none⟩),.pointer (some ⟨p14,0,none⟩),errV (L.backFault M G),.slice a0 n k0,.int .i64 n,.bool false,undef,undef,.slice (some ⟨b1,o1,none⟩) n1 k1,.int .i64 n1,.slice a0 n k0,.int .i64 n,.int .i64 ((n:Int)+1),.bool false,undef,undef,.agg #[.int .i64 g.rows,.int .i64 g.cols,.slice ag ng kg],errV (matFault g.rows g.cols g.cells),.slice a0 n k0,.int .i64 n,.bool false,.bool false,undef,undef,.bool false,undef,undef,.agg #[.int .i64 g.rows,.int .i64 g.cols,.slice ag ng kg],.agg #[.int .i64 g.rows,.int .i64 g.cols,.slice ac nc kc],.slice a0 n k0,.int .i64 n,.slice (some ⟨wB.heap.size,0,none⟩) n n,.slice a0 n k0,.func (.func 104) #[] #[.pointer (some ⟨wB.heap.size+1+1,0,none⟩)],.int .i64 x.val,.agg #[.int .i64 L.kind,.int .i64 L.W.rows,.int .i64 L.W.cols,.slice a4 n4 k4,.int .i64 L.B.rows,.int .i64 L.B.cols,.slice a5 n5 k5],r49,r50,r51,r52,r53,r54,r55,r56,r57,r58,r59,undef,undef,undef,undef,undef,undef,undef,undef,undef,undef,undef],defers:=[] } ∧
    Box W' p13 [.int .i64 (orNone (L.backFault M G) (L.back M G)).rows,.int .i64 (orNone (L.backFault M G) (L.back M G)).cols,.slice a9 n9 k9] 41∧IntsAt W' a9 n9 k9 b9 o9 (orNone (L.backFault M G) (L.back M G)).cells∧(0<n9→W.heap.size≤b9) ∧
    Box W' p14 [.int .i64 (orGrd (L.backFault M G) (L.grad M G)).W.rows,.int .i64 (orGrd (L.backFault M G) (L.grad M G)).W.cols,.slice aA nA kA,.int .i64 (orGrd (L.backFault M G) (L.grad M G)).B.rows,.int .i64 (orGrd (L.backFault M G) (L.grad M G)).B.cols,.slice aB nB kB] 86 ∧
    IntsAt W' aA nA kA bA oA (orGrd (L.backFault M G) (L.grad M G)).W.cells∧(0<nA→W.heap.size≤bA)∧IntsAt W' aB nB kB bB' oB (orGrd (L.backFault M G) (L.grad M G)).B.cells∧(0<nB→W.heap.size≤bB')∧Below W.heap.size W W'∧W.heap.size≤p13∧W.heap.size≤p14:=⟨_,rfl⟩
   have hQ1:∀ c b' W',¬ Q0 (.panic c) b' W':=by
    intro c b' W' h
    rw [hQ0] at h
    exact absurd h.1 (by simp)
   have hQ2:¬ LetsOut Q0:=by
    rintro ⟨b',W',h⟩
    rw [hQ0] at h
    exact absurd h.1 (by simp)
   have HQ0:=Lib.hid hQ0
   clear hQ0
   refine wpIn_mono (Q:=Q0) ?_ ?_
   ·clear Q6 Q7 Q8 Q10 Qo
    refine wpIn_region_held (S:=fun w'=>w'.cell? ⟨q12,0,none⟩=some (.int .i64 L.kind)∧w'.cell? ⟨q12,1,none⟩=some (.int .i64 L.W.rows)∧w'.cell? ⟨q12,2,none⟩=some (.int .i64 L.W.cols)∧w'.cell? ⟨q12,3,none⟩=some (.slice a4 n4 k4)∧w'.cell? ⟨q12,4,none⟩=some (.int .i64 L.B.rows)∧w'.cell? ⟨q12,5,none⟩=some (.int .i64 L.B.cols)∧w'.cell? ⟨q12,6,none⟩=some (.slice a5 n5 k5)∧w'.cell? ⟨w.heap.size,0,none⟩=some (.slice (some ⟨b1,o1,none⟩) n1 k1) ∧
     w'.cell? ⟨b1,o1+x.val*3,none⟩=some (.int .i64 M.rows)∧w'.cell? ⟨b1,o1+x.val*3+1,none⟩=some (.int .i64 M.cols)∧w'.cell? ⟨b1,o1+x.val*3+2,none⟩=some (.slice am nm km)∧w'.cell? ⟨w.heap.size+1,0,none⟩=some (.int .i64 G.rows)∧w'.cell? ⟨w.heap.size+1,1,none⟩=some (.int .i64 G.cols)∧w'.cell? ⟨w.heap.size+1,2,none⟩=some (.slice av mv cv)) hmx (by kernel_rfl) hQ2 (cellsBk (t0:=84) (t1:=87) (t2:=41) P12.drew Q4.drew CM.drew Q5.drew) (fun hHeld=>?_)
    refine held_take (i:=0) (v:=?_) rfl (by kernel_rfl) (by kernel_rfl) (by kernel_rfl) (fun _ _ _ h=>absurd h (hQ1 _ _ _)) (Or.inl ⟨by rfl,?_⟩) (by assumption) ?_
    rotate_left 1
    ·intro w hSw
     (try dsimp only at hSw)
     go_simp
     (try with_reducible rfl)
    (try simp only [Act.put,List.setIfInBounds_toArray,List.set_cons_zero,List.set_cons_succ])
    refine held_take (i:=1) (v:=?_) rfl (by kernel_rfl) (by kernel_rfl) (by kernel_rfl) (fun _ _ _ h=>absurd h (hQ1 _ _ _)) (Or.inl ⟨by rfl,?_⟩) (by assumption) ?_
    rotate_left 1
    ·intro w hSw
     (try dsimp only at hSw)
     go_simp
     (try with_reducible rfl)
    (try simp only [Act.put,List.setIfInBounds_toArray,List.set_cons_zero,List.set_cons_succ])
    refine held_take (i:=2) (v:=?_) rfl (by kernel_rfl) (by kernel_rfl) (by kernel_rfl) (fun _ _ _ h=>absurd h (hQ1 _ _ _)) (Or.inl ⟨by rfl,?_⟩) (by assumption) ?_
    rotate_left 1
    ·intro w hSw
     (try dsimp only at hSw)
     go_simp
     (try with_reducible rfl)
    (try simp only [Act.put,List.setIfInBounds_toArray,List.set_cons_zero,List.set_cons_succ])
    refine held_take (i:=3) (v:=?_) rfl (by kernel_rfl) (by kernel_rfl) (by kernel_rfl) (fun _ _ _ h=>absurd h (hQ1 _ _ _)) (Or.inl ⟨by rfl,?_⟩) (by assumption) ?_
    rotate_left 1
    ·intro w hSw
     (try dsimp only at hSw)
     go_simp
     (try with_reducible rfl)
    (try simp only [Act.put,List.setIfInBounds_toArray,List.set_cons_zero,List.set_cons_succ])
    refine held_take (i:=4) (v:=?_) rfl (by kernel_rfl) (by kernel_rfl) (by kernel_rfl) (fun _ _ _ h=>absurd h (hQ1 _ _ _)) (Or.inl ⟨by rfl,?_⟩) (by assumption) ?_
    rotate_left 1
    ·intro w hSw
     (try dsimp only at hSw)
     go_simp
     (try with_reducible rfl)
    (try simp only [Act.put,List.setIfInBounds_toArray,List.set_cons_zero,List.set_cons_succ])
    refine held_take (i:=5) (v:=?_) rfl (by kernel_rfl) (by kernel_rfl) (by kernel_rfl) (fun _ _ _ h=>absurd h (hQ1 _ _ _)) (Or.inl ⟨by rfl,?_⟩) (by assumption) ?_
    rotate_left 1
    ·intro w hSw
     (try dsimp only at hSw)
     go_simp
     (try with_reducible rfl)
    (try simp only [Act.put,List.setIfInBounds_toArray,List.set_cons_zero,List.set_cons_succ])
    refine wpAnyH_ready (rs:=[6,11,12]) (by kernel_rfl) (by simp) ?_
    refine held_cons rfl (fun K hK=>?_) ?_
    ·go_simp
     refine (layBack_any L M G _ _ _ _ ⟨_,_,_,_,_,_,_,_,_,_,rfl,(show IntsAt _ a4 n4 k4 b4 o4 L.W.cells from y4.k),(show IntsAt _ a5 n5 k5 b5 o5 L.B.cells from y5.k)⟩ (MatAt.mk (show IntsAt _ am nm km bm om M.cells from ym.k)) (MatAt.mk (show IntsAt _ av mv cv bv ov G.cells from yg.k))).mono ?_
     rintro e w9 ⟨v9,d9,rfl,⟨a9,n9,k9,b9,o9,rfl,hn9,x9⟩,⟨aA,nA,kA,bA,oA,aB,nB,kB,bB',oB,rfl,hnA,xA,hnB,xB⟩,hb9⟩
     go_wp2_with fail
     refine hK.out _ _ ?_ (fun hHeld=>?_)
     ·exact cellsBk (t0:=84) (t1:=87) (t2:=41) (by first|exact P12.k1 hb9|exact P12.k) (by first|exact Q4.k1 hb9|exact Q4.k) (by repeat (first|(with_reducible first|exact CM|refine Cells3.alloc ?_ _|refine Cells3.drewN ?_ _|refine Cells3.drew ?_|(refine Cells3.far ?_ ?_ _;rotate_left 1;(first|(dsimp only;omega)|omega|(simp;omega)|simp))|refine Cells3.keep ?_ hb9)|exact CM)) (by first|exact Q5.k1 hb9|exact Q5.k)
     clear hK K
     try simp only [Act.put,List.setIfInBounds_toArray,List.set_cons_zero,List.set_cons_succ]
     refine held_take (i:=7) (v:=?_) rfl (by kernel_rfl) (by kernel_rfl) (by kernel_rfl) (fun _ _ _ h=>absurd h (hQ1 _ _ _)) (Or.inl ⟨by rfl,?_⟩) (by assumption) ?_
     rotate_left 1
     ·intro w hSw
      (try dsimp only at hSw)
      go_simp
      (try with_reducible rfl)
     (try simp only [Act.put,List.setIfInBounds_toArray,List.set_cons_zero,List.set_cons_succ])
     refine held_take (i:=8) (v:=?_) rfl (by kernel_rfl) (by kernel_rfl) (by kernel_rfl) (fun _ _ _ h=>absurd h (hQ1 _ _ _)) (Or.inl ⟨by rfl,?_⟩) (by assumption) ?_
     rotate_left 1
     ·intro w hSw
      (try dsimp only at hSw)
      go_simp
      (try with_reducible rfl)
     (try simp only [Act.put,List.setIfInBounds_toArray,List.set_cons_zero,List.set_cons_succ])
     refine held_take (i:=9) (v:=?_) rfl (by kernel_rfl) (by kernel_rfl) (by kernel_rfl) (fun _ _ _ h=>absurd h (hQ1 _ _ _)) (Or.inl ⟨by rfl,?_⟩) (by assumption) ?_
     rotate_left 1
     ·intro w hSw
      (try dsimp only at hSw)
      go_simp
      (try with_reducible rfl)
     (try simp only [Act.put,List.setIfInBounds_toArray,List.set_cons_zero,List.set_cons_succ])
     refine held_take (i:=10) (v:=?_) rfl (by kernel_rfl) (by kernel_rfl) (by kernel_rfl) (fun _ _ _ h=>absurd h (hQ1 _ _ _)) (Or.inl ⟨by rfl,?_⟩) (by assumption) ?_
     rotate_left 1
     ·intro w hSw
      (try dsimp only at hSw)
      go_simp
      (try with_reducible rfl)
     (try simp only [Act.put,List.setIfInBounds_toArray,List.set_cons_zero,List.set_cons_succ])
     refine wpAnyH_ready (rs:=[11,12]) (by kernel_rfl) (by simp) ?_
     refine held_cons rfl (fun K hK=>?_) ?_
     ·go_simp
      refine hK.out _ _ ?_ (fun hHeld=>?_)
      ·exact cellsBk (t0:=84) (t1:=87) (t2:=41) (by first|exact P12.k1 hb9|exact P12.k) (by first|exact Q4.k1 hb9|exact Q4.k) (by repeat (first|(with_reducible first|exact CM|refine Cells3.alloc ?_ _|refine Cells3.drewN ?_ _|refine Cells3.drew ?_|(refine Cells3.far ?_ ?_ _;rotate_left 1;(first|(dsimp only;omega)|omega|(simp;omega)|simp))|refine Cells3.keep ?_ hb9)|exact CM)) (by first|exact Q5.k1 hb9|exact Q5.k)
      clear hK K
      try simp only [Act.put,List.setIfInBounds_toArray,List.set_cons_zero,List.set_cons_succ]
      refine wpAnyH_ready (rs:=[12]) (by kernel_rfl) (by simp) ?_
      refine held_cons rfl (fun K hK=>?_) ?_
      ·go_simp
       refine hK.out _ _ ?_ (fun hHeld=>?_)
       ·exact cellsBk (t0:=84) (t1:=87) (t2:=41) (by first|exact P12.k1 hb9|exact P12.k) (by first|exact Q4.k1 hb9|exact Q4.k) (by repeat (first|(with_reducible first|exact CM|refine Cells3.alloc ?_ _|refine Cells3.drewN ?_ _|refine Cells3.drew ?_|(refine Cells3.far ?_ ?_ _;rotate_left 1;(first|(dsimp only;omega)|omega|(simp;omega)|simp))|refine Cells3.keep ?_ hb9)|exact CM)) (by first|exact Q5.k1 hb9|exact Q5.k)
       clear hK K
       try simp only [Act.put,List.setIfInBounds_toArray,List.set_cons_zero,List.set_cons_succ]
       refine wpAnyH_ready (rs:=[13]) (by kernel_rfl) (by simp) ?_
       refine held_cons rfl (fun K hK=>?_) ?_
       ·go_simp
        refine hK.out _ _ ?_ (fun hHeld=>?_)
        ·exact cellsBk (t0:=84) (t1:=87) (t2:=41) (by first|exact P12.k1 hb9|exact P12.k) (by first|exact Q4.k1 hb9|exact Q4.k) (by repeat (first|(with_reducible first|exact CM|refine Cells3.alloc ?_ _|refine Cells3.drewN ?_ _|refine Cells3.drew ?_|(refine Cells3.far ?_ ?_ _;rotate_left 1;(first|(dsimp only;omega)|omega|(simp;omega)|simp))|refine Cells3.keep ?_ hb9)|exact CM)) (by first|exact Q5.k1 hb9|exact Q5.k)
        clear hK K
        try simp only [Act.put,List.setIfInBounds_toArray,List.set_cons_zero,List.set_cons_succ]
        refine wpAnyH_ready (rs:=[14]) (by kernel_rfl) (by simp) ?_
        refine held_cons rfl (fun K hK=>?_) ?_
        ·go_simp
         refine hK.out _ _ ?_ (fun hHeld=>?_)
         ·exact cellsBk (t0:=84) (t1:=87) (t2:=41) (by first|exact P12.k1 hb9|exact P12.k) (by first|exact Q4.k1 hb9|exact Q4.k) (by repeat (first|(with_reducible first|exact CM|refine Cells3.alloc ?_ _|refine Cells3.drewN ?_ _|refine Cells3.drew ?_|(refine Cells3.far ?_ ?_ _;rotate_left 1;(first|(dsimp only;omega)|omega|(simp;omega)|simp))|refine Cells3.keep ?_ hb9)|exact CM)) (by first|exact Q5.k1 hb9|exact Q5.k)
         clear hK K
         try simp only [Act.put,List.setIfInBounds_toArray,List.set_cons_zero,List.set_cons_succ]
         refine held_take (i:=15) (v:=?_) rfl (by kernel_rfl) (by kernel_rfl) (by kernel_rfl) (fun _ _ _ h=>absurd h (hQ1 _ _ _)) (Or.inl ⟨by rfl,?_⟩) (by assumption) ?_
         rotate_left 1
         ·intro w hSw
          (try dsimp only at hSw)
          go_simp
          (try with_reducible rfl)
         (try simp only [Act.put,List.setIfInBounds_toArray,List.set_cons_zero,List.set_cons_succ])
         refine wpAnyH_done (by kernel_rfl) ?_ _
         rw [HQ0.out]
         have hz9:W.heap.size≤w9.heap.size:=(show Below W.heap.size W w9 from (Below.x1 hb9)).size
         have hl9:=x9.lt
         have hlA:=xA.lt
         have hlB:=xB.lt
         have hm9:0<n9→W.heap.size≤b9:=fun h=>by have:=hn9 h;simp at this;omega
         have hmA:0<nA→W.heap.size≤bA:=fun h=>by have:=hnA h;simp at this;omega
         have hmB:0<nB→W.heap.size≤bB':=fun h=>by have:=hnB h;simp at this;omega
         simp at hn9 hnA hnB
         refine ⟨rfl,_,_,a9,n9,k9,b9,o9,aA,nA,kA,bA,oA,aB,nB,kB,bB',oB,_,_,_,_,_,_,_,_,_,_,_,rfl,?_,?_,hm9,?_,?_,hmA,?_,hmB,?_,?_,?_⟩
         ·exact (by repeat (first|(with_reducible first|exact P13|(refine (Box.new' _ _ _ _ ?_);(simp;done))|refine Box.alloc ?_ _|refine Box.drewN ?_ _|refine Box.drew ?_|refine Box.set6z ?_ _ _ _ _ _ _|refine Box.set3z ?_ _ _ _|refine Box.fx ?_ _|refine Box.keep ?_ hb9)|exact P13))
         ·exact (by repeat (first|(with_reducible first|exact x9|refine IntsAt.alloc ?_ _|refine IntsAt.drewN ?_ _|refine IntsAt.drew ?_|(refine IntsAt.set ?_ ?_ _;rotate_left 1;(intro h0;have hq0:=hn9 h0;have hq1:=hl9 h0;first|(dsimp only;omega)|omega|(simp;omega)|simp)))|exact x9))
         ·exact (by repeat (first|(with_reducible first|exact P14|(refine (Box.new' _ _ _ _ ?_);(simp;done))|refine Box.alloc ?_ _|refine Box.drewN ?_ _|refine Box.drew ?_|refine Box.set6z ?_ _ _ _ _ _ _|refine Box.set3z ?_ _ _ _|refine Box.fx ?_ _|refine Box.keep ?_ hb9)|exact P14))
         ·exact (by repeat (first|(with_reducible first|exact xA|refine IntsAt.alloc ?_ _|refine IntsAt.drewN ?_ _|refine IntsAt.drew ?_|(refine IntsAt.set ?_ ?_ _;rotate_left 1;(intro h0;have hq0:=hnA h0;have hq1:=hlA h0;first|(dsimp only;omega)|omega|(simp;omega)|simp)))|exact xA))
         ·exact (by repeat (first|(with_reducible first|exact xB|refine IntsAt.alloc ?_ _|refine IntsAt.drewN ?_ _|refine IntsAt.drew ?_|(refine IntsAt.set ?_ ?_ _;rotate_left 1;(intro h0;have hq0:=hnB h0;have hq1:=hlB h0;first|(dsimp only;omega)|omega|(simp;omega)|simp)))|exact xB))
         ·exact (Below.x1 hb9)
         ·(first|exact Nat.le_refl _|omega)
         ·(first|exact Nat.le_refl _|omega)
        exact AllReadyH.nil
       exact AllReadyH.nil
      exact AllReadyH.nil
     refine held_cons rfl (fun K hK=>?_) ?_
     ·go_simp
      refine hK.out _ _ ?_ (fun hHeld=>?_)
      ·exact cellsBk (t0:=84) (t1:=87) (t2:=41) (by first|exact P12.k1 hb9|exact P12.k) (by first|exact Q4.k1 hb9|exact Q4.k) (by repeat (first|(with_reducible first|exact CM|refine Cells3.alloc ?_ _|refine Cells3.drewN ?_ _|refine Cells3.drew ?_|(refine Cells3.far ?_ ?_ _;rotate_left 1;(first|(dsimp only;omega)|omega|(simp;omega)|simp))|refine Cells3.keep ?_ hb9)|exact CM)) (by first|exact Q5.k1 hb9|exact Q5.k)
      clear hK K
      try simp only [Act.put,List.setIfInBounds_toArray,List.set_cons_zero,List.set_cons_succ]
      refine wpAnyH_ready (rs:=[11]) (by kernel_rfl) (by simp) ?_
      refine held_cons rfl (fun K hK=>?_) ?_
      ·go_simp
       refine hK.out _ _ ?_ (fun hHeld=>?_)
       ·exact cellsBk (t0:=84) (t1:=87) (t2:=41) (by first|exact P12.k1 hb9|exact P12.k) (by first|exact Q4.k1 hb9|exact Q4.k) (by repeat (first|(with_reducible first|exact CM|refine Cells3.alloc ?_ _|refine Cells3.drewN ?_ _|refine Cells3.drew ?_|(refine Cells3.far ?_ ?_ _;rotate_left 1;(first|(dsimp only;omega)|omega|(simp;omega)|simp))|refine Cells3.keep ?_ hb9)|exact CM)) (by first|exact Q5.k1 hb9|exact Q5.k)
       clear hK K
       try simp only [Act.put,List.setIfInBounds_toArray,List.set_cons_zero,List.set_cons_succ]
       refine wpAnyH_ready (rs:=[13]) (by kernel_rfl) (by simp) ?_
       refine held_cons rfl (fun K hK=>?_) ?_
       ·go_simp
        refine hK.out _ _ ?_ (fun hHeld=>?_)
        ·exact cellsBk (t0:=84) (t1:=87) (t2:=41) (by first|exact P12.k1 hb9|exact P12.k) (by first|exact Q4.k1 hb9|exact Q4.k) (by repeat (first|(with_reducible first|exact CM|refine Cells3.alloc ?_ _|refine Cells3.drewN ?_ _|refine Cells3.drew ?_|(refine Cells3.far ?_ ?_ _;rotate_left 1;(first|(dsimp only;omega)|omega|(simp;omega)|simp))|refine Cells3.keep ?_ hb9)|exact CM)) (by first|exact Q5.k1 hb9|exact Q5.k)
        clear hK K
        try simp only [Act.put,List.setIfInBounds_toArray,List.set_cons_zero,List.set_cons_succ]
        refine wpAnyH_ready (rs:=[14]) (by kernel_rfl) (by simp) ?_
        refine held_cons rfl (fun K hK=>?_) ?_
        ·go_simp
         refine hK.out _ _ ?_ (fun hHeld=>?_)
         ·exact cellsBk (t0:=84) (t1:=87) (t2:=41) (by first|exact P12.k1 hb9|exact P12.k) (by first|exact Q4.k1 hb9|exact Q4.k) (by repeat (first|(with_reducible first|exact CM|refine Cells3.alloc ?_ _|refine Cells3.drewN ?_ _|refine Cells3.drew ?_|(refine Cells3.far ?_ ?_ _;rotate_left 1;(first|(dsimp only;omega)|omega|(simp;omega)|simp))|refine Cells3.keep ?_ hb9)|exact CM)) (by first|exact Q5.k1 hb9|exact Q5.k)
         clear hK K
         try simp only [Act.put,List.setIfInBounds_toArray,List.set_cons_zero,List.set_cons_succ]
         refine held_take (i:=15) (v:=?_) rfl (by kernel_rfl) (by kernel_rfl) (by kernel_rfl) (fun _ _ _ h=>absurd h (hQ1 _ _ _)) (Or.inl ⟨by rfl,?_⟩) (by assumption) ?_
         rotate_left 1
         ·intro w hSw
          (try dsimp only at hSw)
          go_simp
          (try with_reducible rfl)
         (try simp only [Act.put,List.setIfInBounds_toArray,List.set_cons_zero,List.set_cons_succ])
         refine wpAnyH_done (by kernel_rfl) ?_ _
         rw [HQ0.out]
         have hz9:W.heap.size≤w9.heap.size:=(show Below W.heap.size W w9 from (Below.x1 hb9)).size
         have hl9:=x9.lt
         have hlA:=xA.lt
         have hlB:=xB.lt
         have hm9:0<n9→W.heap.size≤b9:=fun h=>by have:=hn9 h;simp at this;omega
         have hmA:0<nA→W.heap.size≤bA:=fun h=>by have:=hnA h;simp at this;omega
         have hmB:0<nB→W.heap.size≤bB':=fun h=>by have:=hnB h;simp at this;omega
         simp at hn9 hnA hnB
         refine ⟨rfl,_,_,a9,n9,k9,b9,o9,aA,nA,kA,bA,oA,aB,nB,kB,bB',oB,_,_,_,_,_,_,_,_,_,_,_,rfl,?_,?_,hm9,?_,?_,hmA,?_,hmB,?_,?_,?_⟩
         ·exact (by repeat (first|(with_reducible first|exact P13|(refine (Box.new' _ _ _ _ ?_);(simp;done))|refine Box.alloc ?_ _|refine Box.drewN ?_ _|refine Box.drew ?_|refine Box.set6z ?_ _ _ _ _ _ _|refine Box.set3z ?_ _ _ _|refine Box.fx ?_ _|refine Box.keep ?_ hb9)|exact P13))
         ·exact (by repeat (first|(with_reducible first|exact x9|refine IntsAt.alloc ?_ _|refine IntsAt.drewN ?_ _|refine IntsAt.drew ?_|(refine IntsAt.set ?_ ?_ _;rotate_left 1;(intro h0;have hq0:=hn9 h0;have hq1:=hl9 h0;first|(dsimp only;omega)|omega|(simp;omega)|simp)))|exact x9))
         ·exact (by repeat (first|(with_reducible first|exact P14|(refine (Box.new' _ _ _ _ ?_);(simp;done))|refine Box.alloc ?_ _|refine Box.drewN ?_ _|refine Box.drew ?_|refine Box.set6z ?_ _ _ _ _ _ _|refine Box.set3z ?_ _ _ _|refine Box.fx ?_ _|refine Box.keep ?_ hb9)|exact P14))
         ·exact (by repeat (first|(with_reducible first|exact xA|refine IntsAt.alloc ?_ _|refine IntsAt.drewN ?_ _|refine IntsAt.drew ?_|(refine IntsAt.set ?_ ?_ _;rotate_left 1;(intro h0;have hq0:=hnA h0;have hq1:=hlA h0;first|(dsimp only;omega)|omega|(simp;omega)|simp)))|exact xA))
         ·exact (by repeat (first|(with_reducible first|exact xB|refine IntsAt.alloc ?_ _|refine IntsAt.drewN ?_ _|refine IntsAt.drew ?_|(refine IntsAt.set ?_ ?_ _;rotate_left 1;(intro h0;have hq0:=hnB h0;have hq1:=hlB h0;first|(dsimp only;omega)|omega|(simp;omega)|simp)))|exact xB))
         ·exact (Below.x1 hb9)
         ·(first|exact Nat.le_refl _|omega)
         ·(first|exact Nat.le_refl _|omega)
        exact AllReadyH.nil
       exact AllReadyH.nil
      exact AllReadyH.nil
     exact AllReadyH.nil
    refine held_cons rfl (fun K hK=>?_) ?_
    ·go_simp
     refine hK.out _ _ ?_ (fun hHeld=>?_)
     ·exact cellsBk (t0:=84) (t1:=87) (t2:=41) P12.k Q4.k (by repeat (first|(with_reducible first|exact CM|refine Cells3.alloc ?_ _|refine Cells3.drewN ?_ _|refine Cells3.drew ?_|(refine Cells3.far ?_ ?_ _;rotate_left 1;(first|(dsimp only;omega)|omega|(simp;omega)|simp)))|exact CM)) Q5.k
     clear hK K
     try simp only [Act.put,List.setIfInBounds_toArray,List.set_cons_zero,List.set_cons_succ]
     refine wpAnyH_ready (rs:=[6,12]) (by kernel_rfl) (by simp) ?_
     refine held_cons rfl (fun K hK=>?_) ?_
     ·go_simp
      refine (layBack_any L M G _ _ _ _ ⟨_,_,_,_,_,_,_,_,_,_,rfl,(show IntsAt _ a4 n4 k4 b4 o4 L.W.cells from y4.k),(show IntsAt _ a5 n5 k5 b5 o5 L.B.cells from y5.k)⟩ (MatAt.mk (show IntsAt _ am nm km bm om M.cells from ym.k)) (MatAt.mk (show IntsAt _ av mv cv bv ov G.cells from yg.k))).mono ?_
      rintro e w9 ⟨v9,d9,rfl,⟨a9,n9,k9,b9,o9,rfl,hn9,x9⟩,⟨aA,nA,kA,bA,oA,aB,nB,kB,bB',oB,rfl,hnA,xA,hnB,xB⟩,hb9⟩
      have P13:Box w9 (W.heap.size) [.int .i64 0,.int .i64 0,.slice none 0 0] 41:=Box.keep Box.x0 hb9
      have P13c:=P13.cell
      have P13f:=P13.thawed
      have P13z:=P13.lt
      have P13k:=lt_add P13z
      go_wp2_with fail
      refine hK.out _ _ ?_ (fun hHeld=>?_)
      ·exact cellsBk (t0:=84) (t1:=87) (t2:=41) (by first|exact P12.k1 hb9|exact P12.k) (by first|exact Q4.k1 hb9|exact Q4.k) (by repeat (first|(with_reducible first|exact CM|refine Cells3.alloc ?_ _|refine Cells3.drewN ?_ _|refine Cells3.drew ?_|(refine Cells3.far ?_ ?_ _;rotate_left 1;(first|(dsimp only;omega)|omega|(simp;omega)|simp))|refine Cells3.keep ?_ hb9)|exact CM)) (by first|exact Q5.k1 hb9|exact Q5.k)
      clear hK K
      try simp only [Act.put,List.setIfInBounds_toArray,List.set_cons_zero,List.set_cons_succ]
      refine held_take (i:=7) (v:=?_) rfl (by kernel_rfl) (by kernel_rfl) (by kernel_rfl) (fun _ _ _ h=>absurd h (hQ1 _ _ _)) (Or.inl ⟨by rfl,?_⟩) (by assumption) ?_
      rotate_left 1
      ·intro w hSw
       (try dsimp only at hSw)
       go_simp
       (try with_reducible rfl)
      (try simp only [Act.put,List.setIfInBounds_toArray,List.set_cons_zero,List.set_cons_succ])
      refine held_take (i:=8) (v:=?_) rfl (by kernel_rfl) (by kernel_rfl) (by kernel_rfl) (fun _ _ _ h=>absurd h (hQ1 _ _ _)) (Or.inl ⟨by rfl,?_⟩) (by assumption) ?_
      rotate_left 1
      ·intro w hSw
       (try dsimp only at hSw)
       go_simp
       (try with_reducible rfl)
      (try simp only [Act.put,List.setIfInBounds_toArray,List.set_cons_zero,List.set_cons_succ])
      refine held_take (i:=9) (v:=?_) rfl (by kernel_rfl) (by kernel_rfl) (by kernel_rfl) (fun _ _ _ h=>absurd h (hQ1 _ _ _)) (Or.inl ⟨by rfl,?_⟩) (by assumption) ?_
      rotate_left 1
      ·intro w hSw
       (try dsimp only at hSw)
       go_simp
       (try with_reducible rfl)
      (try simp only [Act.put,List.setIfInBounds_toArray,List.set_cons_zero,List.set_cons_succ])
      refine held_take (i:=10) (v:=?_) rfl (by kernel_rfl) (by kernel_rfl) (by kernel_rfl) (fun _ _ _ h=>absurd h (hQ1 _ _ _)) (Or.inl ⟨by rfl,?_⟩) (by assumption) ?_
      rotate_left 1
      ·intro w hSw
       (try dsimp only at hSw)
       go_simp
       (try with_reducible rfl)
      (try simp only [Act.put,List.setIfInBounds_toArray,List.set_cons_zero,List.set_cons_succ])
      refine wpAnyH_ready (rs:=[12]) (by kernel_rfl) (by simp) ?_
      refine held_cons rfl (fun K hK=>?_) ?_
      ·go_simp
       refine hK.out _ _ ?_ (fun hHeld=>?_)
       ·exact cellsBk (t0:=84) (t1:=87) (t2:=41) (by first|exact P12.k1 hb9|exact P12.k) (by first|exact Q4.k1 hb9|exact Q4.k) (by repeat (first|(with_reducible first|exact CM|refine Cells3.alloc ?_ _|refine Cells3.drewN ?_ _|refine Cells3.drew ?_|(refine Cells3.far ?_ ?_ _;rotate_left 1;(first|(dsimp only;omega)|omega|(simp;omega)|simp))|refine Cells3.keep ?_ hb9)|exact CM)) (by first|exact Q5.k1 hb9|exact Q5.k)
       clear hK K
       try simp only [Act.put,List.setIfInBounds_toArray,List.set_cons_zero,List.set_cons_succ]
       refine wpAnyH_ready (rs:=[13]) (by kernel_rfl) (by simp) ?_
       refine held_cons rfl (fun K hK=>?_) ?_
       ·go_simp
        refine hK.out _ _ ?_ (fun hHeld=>?_)
        ·exact cellsBk (t0:=84) (t1:=87) (t2:=41) (by first|exact P12.k1 hb9|exact P12.k) (by first|exact Q4.k1 hb9|exact Q4.k) (by repeat (first|(with_reducible first|exact CM|refine Cells3.alloc ?_ _|refine Cells3.drewN ?_ _|refine Cells3.drew ?_|(refine Cells3.far ?_ ?_ _;rotate_left 1;(first|(dsimp only;omega)|omega|(simp;omega)|simp))|refine Cells3.keep ?_ hb9)|exact CM)) (by first|exact Q5.k1 hb9|exact Q5.k)
        clear hK K
        try simp only [Act.put,List.setIfInBounds_toArray,List.set_cons_zero,List.set_cons_succ]
        refine wpAnyH_ready (rs:=[14]) (by kernel_rfl) (by simp) ?_
        refine held_cons rfl (fun K hK=>?_) ?_
        ·go_simp
         refine hK.out _ _ ?_ (fun hHeld=>?_)
         ·exact cellsBk (t0:=84) (t1:=87) (t2:=41) (by first|exact P12.k1 hb9|exact P12.k) (by first|exact Q4.k1 hb9|exact Q4.k) (by repeat (first|(with_reducible first|exact CM|refine Cells3.alloc ?_ _|refine Cells3.drewN ?_ _|refine Cells3.drew ?_|(refine Cells3.far ?_ ?_ _;rotate_left 1;(first|(dsimp only;omega)|omega|(simp;omega)|simp))|refine Cells3.keep ?_ hb9)|exact CM)) (by first|exact Q5.k1 hb9|exact Q5.k)
         clear hK K
         try simp only [Act.put,List.setIfInBounds_toArray,List.set_cons_zero,List.set_cons_succ]
         refine held_take (i:=15) (v:=?_) rfl (by kernel_rfl) (by kernel_rfl) (by kernel_rfl) (fun _ _ _ h=>absurd h (hQ1 _ _ _)) (Or.inl ⟨by rfl,?_⟩) (by assumption) ?_
         rotate_left 1
         ·intro w hSw
          (try dsimp only at hSw)
          go_simp
          (try with_reducible rfl)
         (try simp only [Act.put,List.setIfInBounds_toArray,List.set_cons_zero,List.set_cons_succ])
         refine wpAnyH_done (by kernel_rfl) ?_ _
         rw [HQ0.out]
         have hz9:W.heap.size≤w9.heap.size:=(show Below W.heap.size W w9 from (Below.x1 hb9)).size
         have hl9:=x9.lt
         have hlA:=xA.lt
         have hlB:=xB.lt
         have hm9:0<n9→W.heap.size≤b9:=fun h=>by have:=hn9 h;simp at this;omega
         have hmA:0<nA→W.heap.size≤bA:=fun h=>by have:=hnA h;simp at this;omega
         have hmB:0<nB→W.heap.size≤bB':=fun h=>by have:=hnB h;simp at this;omega
         simp at hn9 hnA hnB
         refine ⟨rfl,_,_,a9,n9,k9,b9,o9,aA,nA,kA,bA,oA,aB,nB,kB,bB',oB,_,_,_,_,_,_,_,_,_,_,_,rfl,?_,?_,hm9,?_,?_,hmA,?_,hmB,?_,?_,?_⟩
         ·exact (by repeat (first|(with_reducible first|exact P13|(refine (Box.new' _ _ _ _ ?_);(simp;done))|refine Box.alloc ?_ _|refine Box.drewN ?_ _|refine Box.drew ?_|refine Box.set6z ?_ _ _ _ _ _ _|refine Box.set3z ?_ _ _ _|refine Box.fx ?_ _|refine Box.keep ?_ hb9)|exact P13))
         ·exact (by repeat (first|(with_reducible first|exact x9|refine IntsAt.alloc ?_ _|refine IntsAt.drewN ?_ _|refine IntsAt.drew ?_|(refine IntsAt.set ?_ ?_ _;rotate_left 1;(intro h0;have hq0:=hn9 h0;have hq1:=hl9 h0;first|(dsimp only;omega)|omega|(simp;omega)|simp)))|exact x9))
         ·exact (by repeat (first|(with_reducible first|exact P14|(refine (Box.new' _ _ _ _ ?_);(simp;done))|refine Box.alloc ?_ _|refine Box.drewN ?_ _|refine Box.drew ?_|refine Box.set6z ?_ _ _ _ _ _ _|refine Box.set3z ?_ _ _ _|refine Box.fx ?_ _|refine Box.keep ?_ hb9)|exact P14))
         ·exact (by repeat (first|(with_reducible first|exact xA|refine IntsAt.alloc ?_ _|refine IntsAt.drewN ?_ _|refine IntsAt.drew ?_|(refine IntsAt.set ?_ ?_ _;rotate_left 1;(intro h0;have hq0:=hnA h0;have hq1:=hlA h0;first|(dsimp only;omega)|omega|(simp;omega)|simp)))|exact xA))
         ·exact (by repeat (first|(with_reducible first|exact xB|refine IntsAt.alloc ?_ _|refine IntsAt.drewN ?_ _|refine IntsAt.drew ?_|(refine IntsAt.set ?_ ?_ _;rotate_left 1;(intro h0;have hq0:=hnB h0;have hq1:=hlB h0;first|(dsimp only;omega)|omega|(simp;omega)|simp)))|exact xB))
         ·exact (Below.x1 hb9)
         ·(first|exact Nat.le_refl _|omega)
         ·(first|exact Nat.le_refl _|omega)
        exact AllReadyH.nil
       exact AllReadyH.nil
      exact AllReadyH.nil
     refine held_cons rfl (fun K hK=>?_) ?_
     ·go_simp
      refine hK.out _ _ ?_ (fun hHeld=>?_)
      ·exact cellsBk (t0:=84) (t1:=87) (t2:=41) P12.k Q4.k (by repeat (first|(with_reducible first|exact CM|refine Cells3.alloc ?_ _|refine Cells3.drewN ?_ _|refine Cells3.drew ?_|(refine Cells3.far ?_ ?_ _;rotate_left 1;(first|(dsimp only;omega)|omega|(simp;omega)|simp)))|exact CM)) Q5.k
      clear hK K
      try simp only [Act.put,List.setIfInBounds_toArray,List.set_cons_zero,List.set_cons_succ]
      refine wpAnyH_ready (rs:=[6]) (by kernel_rfl) (by simp) ?_
      refine held_cons rfl (fun K hK=>?_) ?_
      ·go_simp
       refine (layBack_any L M G _ _ _ _ ⟨_,_,_,_,_,_,_,_,_,_,rfl,(show IntsAt _ a4 n4 k4 b4 o4 L.W.cells from y4.k),(show IntsAt _ a5 n5 k5 b5 o5 L.B.cells from y5.k)⟩ (MatAt.mk (show IntsAt _ am nm km bm om M.cells from ym.k)) (MatAt.mk (show IntsAt _ av mv cv bv ov G.cells from yg.k))).mono ?_
       rintro e w9 ⟨v9,d9,rfl,⟨a9,n9,k9,b9,o9,rfl,hn9,x9⟩,⟨aA,nA,kA,bA,oA,aB,nB,kB,bB',oB,rfl,hnA,xA,hnB,xB⟩,hb9⟩
       have P13:Box w9 (W.heap.size) [.int .i64 0,.int .i64 0,.slice none 0 0] 41:=Box.keep Box.x0 hb9
       have P13c:=P13.cell
       have P13f:=P13.thawed
       have P13z:=P13.lt
       have P13k:=lt_add P13z
       have P14:Box w9 (W.heap.size+1) [.int .i64 0,.int .i64 0,.slice none 0 0,.int .i64 0,.int .i64 0,.slice none 0 0] 86:=Box.keep Box.x0 hb9
       have P14c:=P14.cell
       have P14f:=P14.thawed
       have P14z:=P14.lt
       have P14k:=lt_add P14z
       go_wp2_with fail
       refine hK.out _ _ ?_ (fun hHeld=>?_)
       ·exact cellsBk (t0:=84) (t1:=87) (t2:=41) (by first|exact P12.k1 hb9|exact P12.k) (by first|exact Q4.k1 hb9|exact Q4.k) (by repeat (first|(with_reducible first|exact CM|refine Cells3.alloc ?_ _|refine Cells3.drewN ?_ _|refine Cells3.drew ?_|(refine Cells3.far ?_ ?_ _;rotate_left 1;(first|(dsimp only;omega)|omega|(simp;omega)|simp))|refine Cells3.keep ?_ hb9)|exact CM)) (by first|exact Q5.k1 hb9|exact Q5.k)
       clear hK K
       try simp only [Act.put,List.setIfInBounds_toArray,List.set_cons_zero,List.set_cons_succ]
       refine held_take (i:=7) (v:=?_) rfl (by kernel_rfl) (by kernel_rfl) (by kernel_rfl) (fun _ _ _ h=>absurd h (hQ1 _ _ _)) (Or.inl ⟨by rfl,?_⟩) (by assumption) ?_
       rotate_left 1
       ·intro w hSw
        (try dsimp only at hSw)
        go_simp
        (try with_reducible rfl)
       (try simp only [Act.put,List.setIfInBounds_toArray,List.set_cons_zero,List.set_cons_succ])
       refine held_take (i:=8) (v:=?_) rfl (by kernel_rfl) (by kernel_rfl) (by kernel_rfl) (fun _ _ _ h=>absurd h (hQ1 _ _ _)) (Or.inl ⟨by rfl,?_⟩) (by assumption) ?_
       rotate_left 1
       ·intro w hSw
        (try dsimp only at hSw)
        go_simp
        (try with_reducible rfl)
       (try simp only [Act.put,List.setIfInBounds_toArray,List.set_cons_zero,List.set_cons_succ])
       refine held_take (i:=9) (v:=?_) rfl (by kernel_rfl) (by kernel_rfl) (by kernel_rfl) (fun _ _ _ h=>absurd h (hQ1 _ _ _)) (Or.inl ⟨by rfl,?_⟩) (by assumption) ?_
       rotate_left 1
       ·intro w hSw
        (try dsimp only at hSw)
        go_simp
        (try with_reducible rfl)
       (try simp only [Act.put,List.setIfInBounds_toArray,List.set_cons_zero,List.set_cons_succ])
       refine held_take (i:=10) (v:=?_) rfl (by kernel_rfl) (by kernel_rfl) (by kernel_rfl) (fun _ _ _ h=>absurd h (hQ1 _ _ _)) (Or.inl ⟨by rfl,?_⟩) (by assumption) ?_
       rotate_left 1
       ·intro w hSw
        (try dsimp only at hSw)
        go_simp
        (try with_reducible rfl)
       (try simp only [Act.put,List.setIfInBounds_toArray,List.set_cons_zero,List.set_cons_succ])
       refine wpAnyH_ready (rs:=[13]) (by kernel_rfl) (by simp) ?_
       refine held_cons rfl (fun K hK=>?_) ?_
       ·go_simp
        refine hK.out _ _ ?_ (fun hHeld=>?_)
        ·exact cellsBk (t0:=84) (t1:=87) (t2:=41) (by first|exact P12.k1 hb9|exact P12.k) (by first|exact Q4.k1 hb9|exact Q4.k) (by repeat (first|(with_reducible first|exact CM|refine Cells3.alloc ?_ _|refine Cells3.drewN ?_ _|refine Cells3.drew ?_|(refine Cells3.far ?_ ?_ _;rotate_left 1;(first|(dsimp only;omega)|omega|(simp;omega)|simp))|refine Cells3.keep ?_ hb9)|exact CM)) (by first|exact Q5.k1 hb9|exact Q5.k)
        clear hK K
        try simp only [Act.put,List.setIfInBounds_toArray,List.set_cons_zero,List.set_cons_succ]
        refine wpAnyH_ready (rs:=[14]) (by kernel_rfl) (by simp) ?_
        refine held_cons rfl (fun K hK=>?_) ?_
        ·go_simp
         refine hK.out _ _ ?_ (fun hHeld=>?_)
         ·exact cellsBk (t0:=84) (t1:=87) (t2:=41) (by first|exact P12.k1 hb9|exact P12.k) (by first|exact Q4.k1 hb9|exact Q4.k) (by repeat (first|(with_reducible first|exact CM|refine Cells3.alloc ?_ _|refine Cells3.drewN ?_ _|refine Cells3.drew ?_|(refine Cells3.far ?_ ?_ _;rotate_left 1;(first|(dsimp only;omega)|omega|(simp;omega)|simp))|refine Cells3.keep ?_ hb9)|exact CM)) (by first|exact Q5.k1 hb9|exact Q5.k)
         clear hK K
         try simp only [Act.put,List.setIfInBounds_toArray,List.set_cons_zero,List.set_cons_succ]
         refine held_take (i:=15) (v:=?_) rfl (by kernel_rfl) (by kernel_rfl) (by kernel_rfl) (fun _ _ _ h=>absurd h (hQ1 _ _ _)) (Or.inl ⟨by rfl,?_⟩) (by assumption) ?_
         rotate_left 1
         ·intro w hSw
          (try dsimp only at hSw)
          go_simp
          (try with_reducible rfl)
         (try simp only [Act.put,List.setIfInBounds_toArray,List.set_cons_zero,List.set_cons_succ])
         refine wpAnyH_done (by kernel_rfl) ?_ _
         rw [HQ0.out]
         have hz9:W.heap.size≤w9.heap.size:=(show Below W.heap.size W w9 from (Below.x1 hb9)).size
         have hl9:=x9.lt
         have hlA:=xA.lt
         have hlB:=xB.lt
         have hm9:0<n9→W.heap.size≤b9:=fun h=>by have:=hn9 h;simp at this;omega
         have hmA:0<nA→W.heap.size≤bA:=fun h=>by have:=hnA h;simp at this;omega
         have hmB:0<nB→W.heap.size≤bB':=fun h=>by have:=hnB h;simp at this;omega
         simp at hn9 hnA hnB
         refine ⟨rfl,_,_,a9,n9,k9,b9,o9,aA,nA,kA,bA,oA,aB,nB,kB,bB',oB,_,_,_,_,_,_,_,_,_,_,_,rfl,?_,?_,hm9,?_,?_,hmA,?_,hmB,?_,?_,?_⟩
         ·exact (by repeat (first|(with_reducible first|exact P13|(refine (Box.new' _ _ _ _ ?_);(simp;done))|refine Box.alloc ?_ _|refine Box.drewN ?_ _|refine Box.drew ?_|refine Box.set6z ?_ _ _ _ _ _ _|refine Box.set3z ?_ _ _ _|refine Box.fx ?_ _|refine Box.keep ?_ hb9)|exact P13))
         ·exact (by repeat (first|(with_reducible first|exact x9|refine IntsAt.alloc ?_ _|refine IntsAt.drewN ?_ _|refine IntsAt.drew ?_|(refine IntsAt.set ?_ ?_ _;rotate_left 1;(intro h0;have hq0:=hn9 h0;have hq1:=hl9 h0;first|(dsimp only;omega)|omega|(simp;omega)|simp)))|exact x9))
         ·exact (by repeat (first|(with_reducible first|exact P14|(refine (Box.new' _ _ _ _ ?_);(simp;done))|refine Box.alloc ?_ _|refine Box.drewN ?_ _|refine Box.drew ?_|refine Box.set6z ?_ _ _ _ _ _ _|refine Box.set3z ?_ _ _ _|refine Box.fx ?_ _|refine Box.keep ?_ hb9)|exact P14))
         ·exact (by repeat (first|(with_reducible first|exact xA|refine IntsAt.alloc ?_ _|refine IntsAt.drewN ?_ _|refine IntsAt.drew ?_|(refine IntsAt.set ?_ ?_ _;rotate_left 1;(intro h0;have hq0:=hnA h0;have hq1:=hlA h0;first|(dsimp only;omega)|omega|(simp;omega)|simp)))|exact xA))
         ·exact (by repeat (first|(with_reducible first|exact xB|refine IntsAt.alloc ?_ _|refine IntsAt.drewN ?_ _|refine IntsAt.drew ?_|(refine IntsAt.set ?_ ?_ _;rotate_left 1;(intro h0;have hq0:=hnB h0;have hq1:=hlB h0;first|(dsimp only;omega)|omega|(simp;omega)|simp)))|exact xB))
         ·exact (Below.x1 hb9)
         ·(first|exact Nat.le_refl _|omega)
         ·(first|exact Nat.le_refl _|omega)
        exact AllReadyH.nil
       exact AllReadyH.nil
      exact AllReadyH.nil
     exact AllReadyH.nil
    refine held_cons rfl (fun K hK=>?_) ?_
    ·go_simp
     refine hK.out _ _ ?_ (fun hHeld=>?_)
     ·exact cellsBk (t0:=84) (t1:=87) (t2:=41) P12.k Q4.k (by repeat (first|(with_reducible first|exact CM|refine Cells3.alloc ?_ _|refine Cells3.drewN ?_ _|refine Cells3.drew ?_|(refine Cells3.far ?_ ?_ _;rotate_left 1;(first|(dsimp only;omega)|omega|(simp;omega)|simp)))|exact CM)) Q5.k
     clear hK K
     try simp only [Act.put,List.setIfInBounds_toArray,List.set_cons_zero,List.set_cons_succ]
     refine wpAnyH_ready (rs:=[6,11]) (by kernel_rfl) (by simp) ?_
     refine held_cons rfl (fun K hK=>?_) ?_
     ·go_simp
      refine (layBack_any L M G _ _ _ _ ⟨_,_,_,_,_,_,_,_,_,_,rfl,(show IntsAt _ a4 n4 k4 b4 o4 L.W.cells from y4.k),(show IntsAt _ a5 n5 k5 b5 o5 L.B.cells from y5.k)⟩ (MatAt.mk (show IntsAt _ am nm km bm om M.cells from ym.k)) (MatAt.mk (show IntsAt _ av mv cv bv ov G.cells from yg.k))).mono ?_
      rintro e w9 ⟨v9,d9,rfl,⟨a9,n9,k9,b9,o9,rfl,hn9,x9⟩,⟨aA,nA,kA,bA,oA,aB,nB,kB,bB',oB,rfl,hnA,xA,hnB,xB⟩,hb9⟩
      have P14:Box w9 (W.heap.size) [.int .i64 0,.int .i64 0,.slice none 0 0,.int .i64 0,.int .i64 0,.slice none 0 0] 86:=Box.keep Box.x0 hb9
      have P14c:=P14.cell
      have P14f:=P14.thawed
      have P14z:=P14.lt
      have P14k:=lt_add P14z
      go_wp2_with fail
      refine hK.out _ _ ?_ (fun hHeld=>?_)
      ·exact cellsBk (t0:=84) (t1:=87) (t2:=41) (by first|exact P12.k1 hb9|exact P12.k) (by first|exact Q4.k1 hb9|exact Q4.k) (by repeat (first|(with_reducible first|exact CM|refine Cells3.alloc ?_ _|refine Cells3.drewN ?_ _|refine Cells3.drew ?_|(refine Cells3.far ?_ ?_ _;rotate_left 1;(first|(dsimp only;omega)|omega|(simp;omega)|simp))|refine Cells3.keep ?_ hb9)|exact CM)) (by first|exact Q5.k1 hb9|exact Q5.k)
      clear hK K
      try simp only [Act.put,List.setIfInBounds_toArray,List.set_cons_zero,List.set_cons_succ]
      refine held_take (i:=7) (v:=?_) rfl (by kernel_rfl) (by kernel_rfl) (by kernel_rfl) (fun _ _ _ h=>absurd h (hQ1 _ _ _)) (Or.inl ⟨by rfl,?_⟩) (by assumption) ?_
      rotate_left 1
      ·intro w hSw
       (try dsimp only at hSw)
       go_simp
       (try with_reducible rfl)
      (try simp only [Act.put,List.setIfInBounds_toArray,List.set_cons_zero,List.set_cons_succ])
      refine held_take (i:=8) (v:=?_) rfl (by kernel_rfl) (by kernel_rfl) (by kernel_rfl) (fun _ _ _ h=>absurd h (hQ1 _ _ _)) (Or.inl ⟨by rfl,?_⟩) (by assumption) ?_
      rotate_left 1
      ·intro w hSw
       (try dsimp only at hSw)
       go_simp
       (try with_reducible rfl)
      (try simp only [Act.put,List.setIfInBounds_toArray,List.set_cons_zero,List.set_cons_succ])
      refine held_take (i:=9) (v:=?_) rfl (by kernel_rfl) (by kernel_rfl) (by kernel_rfl) (fun _ _ _ h=>absurd h (hQ1 _ _ _)) (Or.inl ⟨by rfl,?_⟩) (by assumption) ?_
      rotate_left 1
      ·intro w hSw
       (try dsimp only at hSw)
       go_simp
       (try with_reducible rfl)
      (try simp only [Act.put,List.setIfInBounds_toArray,List.set_cons_zero,List.set_cons_succ])
      refine held_take (i:=10) (v:=?_) rfl (by kernel_rfl) (by kernel_rfl) (by kernel_rfl) (fun _ _ _ h=>absurd h (hQ1 _ _ _)) (Or.inl ⟨by rfl,?_⟩) (by assumption) ?_
      rotate_left 1
      ·intro w hSw
       (try dsimp only at hSw)
       go_simp
       (try with_reducible rfl)
      (try simp only [Act.put,List.setIfInBounds_toArray,List.set_cons_zero,List.set_cons_succ])
      refine wpAnyH_ready (rs:=[11]) (by kernel_rfl) (by simp) ?_
      refine held_cons rfl (fun K hK=>?_) ?_
      ·go_simp
       refine hK.out _ _ ?_ (fun hHeld=>?_)
       ·exact cellsBk (t0:=84) (t1:=87) (t2:=41) (by first|exact P12.k1 hb9|exact P12.k) (by first|exact Q4.k1 hb9|exact Q4.k) (by repeat (first|(with_reducible first|exact CM|refine Cells3.alloc ?_ _|refine Cells3.drewN ?_ _|refine Cells3.drew ?_|(refine Cells3.far ?_ ?_ _;rotate_left 1;(first|(dsimp only;omega)|omega|(simp;omega)|simp))|refine Cells3.keep ?_ hb9)|exact CM)) (by first|exact Q5.k1 hb9|exact Q5.k)
       clear hK K
       try simp only [Act.put,List.setIfInBounds_toArray,List.set_cons_zero,List.set_cons_succ]
       refine wpAnyH_ready (rs:=[13]) (by kernel_rfl) (by simp) ?_
       refine held_cons rfl (fun K hK=>?_) ?_
       ·go_simp
        refine hK.out _ _ ?_ (fun hHeld=>?_)
        ·exact cellsBk (t0:=84) (t1:=87) (t2:=41) (by first|exact P12.k1 hb9|exact P12.k) (by first|exact Q4.k1 hb9|exact Q4.k) (by repeat (first|(with_reducible first|exact CM|refine Cells3.alloc ?_ _|refine Cells3.drewN ?_ _|refine Cells3.drew ?_|(refine Cells3.far ?_ ?_ _;rotate_left 1;(first|(dsimp only;omega)|omega|(simp;omega)|simp))|refine Cells3.keep ?_ hb9)|exact CM)) (by first|exact Q5.k1 hb9|exact Q5.k)
        clear hK K
        try simp only [Act.put,List.setIfInBounds_toArray,List.set_cons_zero,List.set_cons_succ]
        refine wpAnyH_ready (rs:=[14]) (by kernel_rfl) (by simp) ?_
        refine held_cons rfl (fun K hK=>?_) ?_
        ·go_simp
         refine hK.out _ _ ?_ (fun hHeld=>?_)
         ·exact cellsBk (t0:=84) (t1:=87) (t2:=41) (by first|exact P12.k1 hb9|exact P12.k) (by first|exact Q4.k1 hb9|exact Q4.k) (by repeat (first|(with_reducible first|exact CM|refine Cells3.alloc ?_ _|refine Cells3.drewN ?_ _|refine Cells3.drew ?_|(refine Cells3.far ?_ ?_ _;rotate_left 1;(first|(dsimp only;omega)|omega|(simp;omega)|simp))|refine Cells3.keep ?_ hb9)|exact CM)) (by first|exact Q5.k1 hb9|exact Q5.k)
         clear hK K
         try simp only [Act.put,List.setIfInBounds_toArray,List.set_cons_zero,List.set_cons_succ]
         refine held_take (i:=15) (v:=?_) rfl (by kernel_rfl) (by kernel_rfl) (by kernel_rfl) (fun _ _ _ h=>absurd h (hQ1 _ _ _)) (Or.inl ⟨by rfl,?_⟩) (by assumption) ?_
         rotate_left 1
         ·intro w hSw
          (try dsimp only at hSw)
          go_simp
          (try with_reducible rfl)
         (try simp only [Act.put,List.setIfInBounds_toArray,List.set_cons_zero,List.set_cons_succ])
         refine wpAnyH_done (by kernel_rfl) ?_ _
         rw [HQ0.out]
         have hz9:W.heap.size≤w9.heap.size:=(show Below W.heap.size W w9 from (Below.x1 hb9)).size
         have hl9:=x9.lt
         have hlA:=xA.lt
         have hlB:=xB.lt
         have hm9:0<n9→W.heap.size≤b9:=fun h=>by have:=hn9 h;simp at this;omega
         have hmA:0<nA→W.heap.size≤bA:=fun h=>by have:=hnA h;simp at this;omega
         have hmB:0<nB→W.heap.size≤bB':=fun h=>by have:=hnB h;simp at this;omega
         simp at hn9 hnA hnB
         refine ⟨rfl,_,_,a9,n9,k9,b9,o9,aA,nA,kA,bA,oA,aB,nB,kB,bB',oB,_,_,_,_,_,_,_,_,_,_,_,rfl,?_,?_,hm9,?_,?_,hmA,?_,hmB,?_,?_,?_⟩
         ·exact (by repeat (first|(with_reducible first|exact P13|(refine (Box.new' _ _ _ _ ?_);(simp;done))|refine Box.alloc ?_ _|refine Box.drewN ?_ _|refine Box.drew ?_|refine Box.set6z ?_ _ _ _ _ _ _|refine Box.set3z ?_ _ _ _|refine Box.fx ?_ _|refine Box.keep ?_ hb9)|exact P13))
         ·exact (by repeat (first|(with_reducible first|exact x9|refine IntsAt.alloc ?_ _|refine IntsAt.drewN ?_ _|refine IntsAt.drew ?_|(refine IntsAt.set ?_ ?_ _;rotate_left 1;(intro h0;have hq0:=hn9 h0;have hq1:=hl9 h0;first|(dsimp only;omega)|omega|(simp;omega)|simp)))|exact x9))
         ·exact (by repeat (first|(with_reducible first|exact P14|(refine (Box.new' _ _ _ _ ?_);(simp;done))|refine Box.alloc ?_ _|refine Box.drewN ?_ _|refine Box.drew ?_|refine Box.set6z ?_ _ _ _ _ _ _|refine Box.set3z ?_ _ _ _|refine Box.fx ?_ _|refine Box.keep ?_ hb9)|exact P14))
         ·exact (by repeat (first|(with_reducible first|exact xA|refine IntsAt.alloc ?_ _|refine IntsAt.drewN ?_ _|refine IntsAt.drew ?_|(refine IntsAt.set ?_ ?_ _;rotate_left 1;(intro h0;have hq0:=hnA h0;have hq1:=hlA h0;first|(dsimp only;omega)|omega|(simp;omega)|simp)))|exact xA))
         ·exact (by repeat (first|(with_reducible first|exact xB|refine IntsAt.alloc ?_ _|refine IntsAt.drewN ?_ _|refine IntsAt.drew ?_|(refine IntsAt.set ?_ ?_ _;rotate_left 1;(intro h0;have hq0:=hnB h0;have hq1:=hlB h0;first|(dsimp only;omega)|omega|(simp;omega)|simp)))|exact xB))
         ·exact (Below.x1 hb9)
         ·(first|exact Nat.le_refl _|omega)
         ·(first|exact Nat.le_refl _|omega)
        exact AllReadyH.nil
       exact AllReadyH.nil
      exact AllReadyH.nil
     refine held_cons rfl (fun K hK=>?_) ?_
     ·go_simp
      refine hK.out _ _ ?_ (fun hHeld=>?_)
      ·exact cellsBk (t0:=84) (t1:=87) (t2:=41) P12.k Q4.k (by repeat (first|(with_reducible first|exact CM|refine Cells3.alloc ?_ _|refine Cells3.drewN ?_ _|refine Cells3.drew ?_|(refine Cells3.far ?_ ?_ _;rotate_left 1;(first|(dsimp only;omega)|omega|(simp;omega)|simp)))|exact CM)) Q5.k
      clear hK K
      try simp only [Act.put,List.setIfInBounds_toArray,List.set_cons_zero,List.set_cons_succ]
      refine wpAnyH_ready (rs:=[6]) (by kernel_rfl) (by simp) ?_
      refine held_cons rfl (fun K hK=>?_) ?_
      ·go_simp
       refine (layBack_any L M G _ _ _ _ ⟨_,_,_,_,_,_,_,_,_,_,rfl,(show IntsAt _ a4 n4 k4 b4 o4 L.W.cells from y4.k),(show IntsAt _ a5 n5 k5 b5 o5 L.B.cells from y5.k)⟩ (MatAt.mk (show IntsAt _ am nm km bm om M.cells from ym.k)) (MatAt.mk (show IntsAt _ av mv cv bv ov G.cells from yg.k))).mono ?_
       rintro e w9 ⟨v9,d9,rfl,⟨a9,n9,k9,b9,o9,rfl,hn9,x9⟩,⟨aA,nA,kA,bA,oA,aB,nB,kB,bB',oB,rfl,hnA,xA,hnB,xB⟩,hb9⟩
       have P13:Box w9 (W.heap.size+1) [.int .i64 0,.int .i64 0,.slice none 0 0] 41:=Box.keep Box.x0 hb9
       have P13c:=P13.cell
       have P13f:=P13.thawed
       have P13z:=P13.lt
       have P13k:=lt_add P13z
       have P14:Box w9 (W.heap.size) [.int .i64 0,.int .i64 0,.slice none 0 0,.int .i64 0,.int .i64 0,.slice none 0 0] 86:=Box.keep Box.x0 hb9
       have P14c:=P14.cell
       have P14f:=P14.thawed
       have P14z:=P14.lt
       have P14k:=lt_add P14z
       go_wp2_with fail
       refine hK.out _ _ ?_ (fun hHeld=>?_)
       ·exact cellsBk (t0:=84) (t1:=87) (t2:=41) (by first|exact P12.k1 hb9|exact P12.k) (by first|exact Q4.k1 hb9|exact Q4.k) (by repeat (first|(with_reducible first|exact CM|refine Cells3.alloc ?_ _|refine Cells3.drewN ?_ _|refine Cells3.drew ?_|(refine Cells3.far ?_ ?_ _;rotate_left 1;(first|(dsimp only;omega)|omega|(simp;omega)|simp))|refine Cells3.keep ?_ hb9)|exact CM)) (by first|exact Q5.k1 hb9|exact Q5.k)
       clear hK K
       try simp only [Act.put,List.setIfInBounds_toArray,List.set_cons_zero,List.set_cons_succ]
       refine held_take (i:=7) (v:=?_) rfl (by kernel_rfl) (by kernel_rfl) (by kernel_rfl) (fun _ _ _ h=>absurd h (hQ1 _ _ _)) (Or.inl ⟨by rfl,?_⟩) (by assumption) ?_
       rotate_left 1
       ·intro w hSw
        (try dsimp only at hSw)
        go_simp
        (try with_reducible rfl)
       (try simp only [Act.put,List.setIfInBounds_toArray,List.set_cons_zero,List.set_cons_succ])
       refine held_take (i:=8) (v:=?_) rfl (by kernel_rfl) (by kernel_rfl) (by kernel_rfl) (fun _ _ _ h=>absurd h (hQ1 _ _ _)) (Or.inl ⟨by rfl,?_⟩) (by assumption) ?_
       rotate_left 1
       ·intro w hSw
        (try dsimp only at hSw)
        go_simp
        (try with_reducible rfl)
       (try simp only [Act.put,List.setIfInBounds_toArray,List.set_cons_zero,List.set_cons_succ])
       refine held_take (i:=9) (v:=?_) rfl (by kernel_rfl) (by kernel_rfl) (by kernel_rfl) (fun _ _ _ h=>absurd h (hQ1 _ _ _)) (Or.inl ⟨by rfl,?_⟩) (by assumption) ?_
       rotate_left 1
       ·intro w hSw
        (try dsimp only at hSw)
        go_simp
        (try with_reducible rfl)
       (try simp only [Act.put,List.setIfInBounds_toArray,List.set_cons_zero,List.set_cons_succ])
       refine held_take (i:=10) (v:=?_) rfl (by kernel_rfl) (by kernel_rfl) (by kernel_rfl) (fun _ _ _ h=>absurd h (hQ1 _ _ _)) (Or.inl ⟨by rfl,?_⟩) (by assumption) ?_
       rotate_left 1
       ·intro w hSw
        (try dsimp only at hSw)
        go_simp
        (try with_reducible rfl)
       (try simp only [Act.put,List.setIfInBounds_toArray,List.set_cons_zero,List.set_cons_succ])
       refine wpAnyH_ready (rs:=[13]) (by kernel_rfl) (by simp) ?_
       refine held_cons rfl (fun K hK=>?_) ?_
       ·go_simp
        refine hK.out _ _ ?_ (fun hHeld=>?_)
        ·exact cellsBk (t0:=84) (t1:=87) (t2:=41) (by first|exact P12.k1 hb9|exact P12.k) (by first|exact Q4.k1 hb9|exact Q4.k) (by repeat (first|(with_reducible first|exact CM|refine Cells3.alloc ?_ _|refine Cells3.drewN ?_ _|refine Cells3.drew ?_|(refine Cells3.far ?_ ?_ _;rotate_left 1;(first|(dsimp only;omega)|omega|(simp;omega)|simp))|refine Cells3.keep ?_ hb9)|exact CM)) (by first|exact Q5.k1 hb9|exact Q5.k)
        clear hK K
        try simp only [Act.put,List.setIfInBounds_toArray,List.set_cons_zero,List.set_cons_succ]
        refine wpAnyH_ready (rs:=[14]) (by kernel_rfl) (by simp) ?_
        refine held_cons rfl (fun K hK=>?_) ?_
        ·go_simp
         refine hK.out _ _ ?_ (fun hHeld=>?_)
         ·exact cellsBk (t0:=84) (t1:=87) (t2:=41) (by first|exact P12.k1 hb9|exact P12.k) (by first|exact Q4.k1 hb9|exact Q4.k) (by repeat (first|(with_reducible first|exact CM|refine Cells3.alloc ?_ _|refine Cells3.drewN ?_ _|refine Cells3.drew ?_|(refine Cells3.far ?_ ?_ _;rotate_left 1;(first|(dsimp only;omega)|omega|(simp;omega)|simp))|refine Cells3.keep ?_ hb9)|exact CM)) (by first|exact Q5.k1 hb9|exact Q5.k)
         clear hK K
         try simp only [Act.put,List.setIfInBounds_toArray,List.set_cons_zero,List.set_cons_succ]
         refine held_take (i:=15) (v:=?_) rfl (by kernel_rfl) (by kernel_rfl) (by kernel_rfl) (fun _ _ _ h=>absurd h (hQ1 _ _ _)) (Or.inl ⟨by rfl,?_⟩) (by assumption) ?_
         rotate_left 1
         ·intro w hSw
          (try dsimp only at hSw)
          go_simp
          (try with_reducible rfl)
         (try simp only [Act.put,List.setIfInBounds_toArray,List.set_cons_zero,List.set_cons_succ])
         refine wpAnyH_done (by kernel_rfl) ?_ _
         rw [HQ0.out]
         have hz9:W.heap.size≤w9.heap.size:=(show Below W.heap.size W w9 from (Below.x1 hb9)).size
         have hl9:=x9.lt
         have hlA:=xA.lt
         have hlB:=xB.lt
         have hm9:0<n9→W.heap.size≤b9:=fun h=>by have:=hn9 h;simp at this;omega
         have hmA:0<nA→W.heap.size≤bA:=fun h=>by have:=hnA h;simp at this;omega
         have hmB:0<nB→W.heap.size≤bB':=fun h=>by have:=hnB h;simp at this;omega
         simp at hn9 hnA hnB
         refine ⟨rfl,_,_,a9,n9,k9,b9,o9,aA,nA,kA,bA,oA,aB,nB,kB,bB',oB,_,_,_,_,_,_,_,_,_,_,_,rfl,?_,?_,hm9,?_,?_,hmA,?_,hmB,?_,?_,?_⟩
         ·exact (by repeat (first|(with_reducible first|exact P13|(refine (Box.new' _ _ _ _ ?_);(simp;done))|refine Box.alloc ?_ _|refine Box.drewN ?_ _|refine Box.drew ?_|refine Box.set6z ?_ _ _ _ _ _ _|refine Box.set3z ?_ _ _ _|refine Box.fx ?_ _|refine Box.keep ?_ hb9)|exact P13))
         ·exact (by repeat (first|(with_reducible first|exact x9|refine IntsAt.alloc ?_ _|refine IntsAt.drewN ?_ _|refine IntsAt.drew ?_|(refine IntsAt.set ?_ ?_ _;rotate_left 1;(intro h0;have hq0:=hn9 h0;have hq1:=hl9 h0;first|(dsimp only;omega)|omega|(simp;omega)|simp)))|exact x9))
         ·exact (by repeat (first|(with_reducible first|exact P14|(refine (Box.new' _ _ _ _ ?_);(simp;done))|refine Box.alloc ?_ _|refine Box.drewN ?_ _|refine Box.drew ?_|refine Box.set6z ?_ _ _ _ _ _ _|refine Box.set3z ?_ _ _ _|refine Box.fx ?_ _|refine Box.keep ?_ hb9)|exact P14))
         ·exact (by repeat (first|(with_reducible first|exact xA|refine IntsAt.alloc ?_ _|refine IntsAt.drewN ?_ _|refine IntsAt.drew ?_|(refine IntsAt.set ?_ ?_ _;rotate_left 1;(intro h0;have hq0:=hnA h0;have hq1:=hlA h0;first|(dsimp only;omega)|omega|(simp;omega)|simp)))|exact xA))
         ·exact (by repeat (first|(with_reducible first|exact xB|refine IntsAt.alloc ?_ _|refine IntsAt.drewN ?_ _|refine IntsAt.drew ?_|(refine IntsAt.set ?_ ?_ _;rotate_left 1;(intro h0;have hq0:=hnB h0;have hq1:=hlB h0;first|(dsimp only;omega)|omega|(simp;omega)|simp)))|exact xB))
         ·exact (Below.x1 hb9)
         ·(first|exact Nat.le_refl _|omega)
         ·(first|exact Nat.le_refl _|omega)
        exact AllReadyH.nil
       exact AllReadyH.nil
      exact AllReadyH.nil
     exact AllReadyH.nil
    exact AllReadyH.nil
   ·rintro e b' W9 hq
    rw [HQ0.out] at hq
    obtain ⟨rfl,p13,p14,a9,n9,k9,b9,o9,aA,nA,kA,bA,oA,aB,nB,kB,bB',oB,r49,r50,r51,r52,r53,r54,r55,r56,r57,r58,r59,rfl,B13,x9,hm9,B14,xA,hmA,xB,hmB,hb9,hp13,hp14⟩:=hq
    have hkW9:Below W.heap.size W W9:=(Below.x1 hb9)
    replace Q4:=Q4.keep hkW9
    replace Q4c:=Q4.cell
    replace Q4f:=Q4.thawed
    replace Q4z:=Q4.lt
    replace Q4k:=lt_add Q4z
    replace Q5:=Q5.keep hkW9
    replace Q5c:=Q5.cell
    replace Q5f:=Q5.thawed
    replace Q5z:=Q5.lt
    replace Q5k:=lt_add Q5z
    replace Q6:=Q6.keep hkW9
    replace Q6c:=Q6.cell
    replace Q6f:=Q6.thawed
    replace Q6z:=Q6.lt
    replace Q6k:=lt_add Q6z
    replace Q7:=Q7.keep hkW9
    replace Q7c:=Q7.cell
    replace Q7f:=Q7.thawed
    replace Q7z:=Q7.lt
    replace Q7k:=lt_add Q7z
    replace Q8:=Q8.keep hkW9
    replace Q8c:=Q8.cell
    replace Q8f:=Q8.thawed
    replace Q8z:=Q8.lt
    replace Q8k:=lt_add Q8z
    replace Q10:=Q10.keep hkW9
    replace Q10c:=Q10.cell
    replace Q10f:=Q10.thawed
    replace Q10z:=Q10.lt
    replace Q10k:=lt_add Q10z
    replace Qo:=Qo.keep hkW9
    replace Qoc:=Qo.cell
    replace Qof:=Qo.thawed
    replace Qoz:=Qo.lt
    replace Qok:=lt_add Qoz
    clear HQ0 hQ1 hQ2 CM P12
    by_cases hf:L.backFault M G=0
    ·rw [errV_nil hf]
     rw [orNone_ok hf] at B13 x9
     rw [orGrd_ok hf] at B14 xA xB
     have B13:=B13
     have B13c:=B13.cell
     have B13f:=B13.thawed
     have B13z:=B13.lt
     have B13k:=lt_add B13z
     have B14:=B14
     have B14c:=B14.cell
     have B14f:=B14.thawed
     have B14z:=B14.lt
     have B14k:=lt_add B14z
     have HF:=Lib.hid hf
     clear hf
     have hx2:(x.val:Int)<(n:Int):=by omega
     gi_wp2
     refine wpIn_region_held (S:=fun w'=>w'.cell? ⟨wB.heap.size+1,0,none⟩=some (.slice (some ⟨wB.heap.size,0,none⟩) n n)∧w'.cell? ⟨p13,0,none⟩=some (.int .i64 (L.back M G).rows)∧w'.cell? ⟨p13,1,none⟩=some (.int .i64 (L.back M G).cols)∧w'.cell? ⟨p13,2,none⟩=some (.slice a9 n9 k9)∧w'.cell? ⟨p14,0,none⟩=some (.int .i64 (L.grad M G).W.rows)∧w'.cell? ⟨p14,1,none⟩=some (.int .i64 (L.grad M G).W.cols)∧w'.cell? ⟨p14,2,none⟩=some (.slice aA nA kA)∧w'.cell? ⟨p14,3,none⟩=some (.int .i64 (L.grad M G).B.rows)∧w'.cell? ⟨p14,4,none⟩=some (.int .i64 (L.grad M G).B.cols)∧w'.cell? ⟨p14,5,none⟩=some (.slice aB nB kB)) hmx (by kernel_rfl) (by rintro ⟨b',W',h⟩;exact h) (cellsBm (t0:=23) (t1:=41) (t2:=86) Q10.drew B13.drew B14.drew) (fun hHeld=>?_)
     refine held_take (i:=0) (v:=?_) rfl (by kernel_rfl) (by kernel_rfl) (by kernel_rfl) (fun _ _ _ h=>h) (Or.inl ⟨by rfl,?_⟩) (by assumption) ?_
     rotate_left 1
     ·intro w hSw
      (try dsimp only at hSw)
      go_simp
      (try with_reducible rfl)
     (try simp only [Act.put,List.setIfInBounds_toArray,List.set_cons_zero,List.set_cons_succ])
     refine held_take (i:=1) (v:=?_) rfl (by kernel_rfl) (by kernel_rfl) (by kernel_rfl) (fun _ _ _ h=>h) (Or.inl ⟨by rfl,?_⟩) (by assumption) ?_
     rotate_left 1
     ·intro w hSw
      (try dsimp only at hSw)
      go_simp
      (try with_reducible rfl)
     (try simp only [Act.put,List.setIfInBounds_toArray,List.set_cons_zero,List.set_cons_succ])
     refine held_take (i:=2) (v:=?_) rfl (by kernel_rfl) (by kernel_rfl) (by kernel_rfl) (fun _ _ _ h=>h) (Or.inl ⟨by rfl,?_⟩) (by assumption) ?_
     rotate_left 1
     ·intro w hSw
      (try dsimp only at hSw)
      go_simp
      (try with_reducible rfl)
     (try simp only [Act.put,List.setIfInBounds_toArray,List.set_cons_zero,List.set_cons_succ])
     refine held_take (i:=3) (v:=?_) rfl (by kernel_rfl) (by kernel_rfl) (by kernel_rfl) (fun _ _ _ h=>h) (Or.inl ⟨by rfl,?_⟩) (by assumption) ?_
     rotate_left 1
     ·intro w hSw
      (try dsimp only at hSw)
      go_simp
      (try with_reducible rfl)
     (try simp only [Act.put,List.setIfInBounds_toArray,List.set_cons_zero,List.set_cons_succ])
     refine wpAnyH_ready (rs:=[4]) (by kernel_rfl) (by simp) ?_
     refine held_cons rfl (fun K hK=>?_) ?_
     ·go_simp
      obtain ⟨Wa,hWa,A5,Ao,A10,A13,A14,ha9,haA,haB,hfa⟩:∃ Wa,(((W9.setCell ⟨w.heap.size+1,0,none⟩ (.int .i64 (L.back M G).rows)).setCell ⟨w.heap.size+1,1,none⟩ (.int .i64 (L.back M G).cols)).setCell ⟨w.heap.size+1,2,none⟩ (.slice a9 n9 k9)).drew=Wa∧Box Wa (w.heap.size+1) [.int .i64 (L.back M G).rows,.int .i64 (L.back M G).cols,.slice a9 n9 k9] 41∧Box Wa wB.heap.size cs 86∧Box Wa (wB.heap.size+1) [.slice (some ⟨wB.heap.size,0,none⟩) n n] 23∧Box Wa p13 [.int .i64 (L.back M G).rows,.int .i64 (L.back M G).cols,.slice a9 n9 k9] 41∧Box Wa p14 [.int .i64 (L.grad M G).W.rows,.int .i64 (L.grad M G).W.cols,.slice aA nA kA,.int .i64 (L.grad M G).B.rows,.int .i64 (L.grad M G).B.cols,.slice aB nB kB] 86∧IntsAt Wa a9 n9 k9 b9 o9 (L.back M G).cells∧IntsAt Wa aA nA kA bA oA (L.grad M G).W.cells∧IntsAt Wa aB nB kB bB' oB (L.grad M G).B.cells∧Far (fun b=>b=w.heap.size+1∨b=wB.heap.size) W Wa:=
       ⟨_,rfl,(((Q5.set 0 _).set 1 _).set 2 _).drew,Qo.k,Q10.k,B13.k,B14.k,(by repeat (first|(with_reducible first|exact x9|refine IntsAt.alloc ?_ _|refine IntsAt.drewN ?_ _|refine IntsAt.drew ?_|(refine IntsAt.set ?_ ?_ _;rotate_left 1;(intro h0;have hq0:=hm9 h0;first|(dsimp only;omega)|omega|(simp;omega)|simp)))|exact x9)),(by repeat (first|(with_reducible first|exact xA|refine IntsAt.alloc ?_ _|refine IntsAt.drewN ?_ _|refine IntsAt.drew ?_|(refine IntsAt.set ?_ ?_ _;rotate_left 1;(intro h0;have hq0:=hmA h0;first|(dsimp only;omega)|omega|(simp;omega)|simp)))|exact xA)),(by repeat (first|(with_reducible first|exact xB|refine IntsAt.alloc ?_ _|refine IntsAt.drewN ?_ _|refine IntsAt.drew ?_|(refine IntsAt.set ?_ ?_ _;rotate_left 1;(intro h0;have hq0:=hmB h0;first|(dsimp only;omega)|omega|(simp;omega)|simp)))|exact xB)),((((Far.of_below hb9).st (fun _=>Or.inl rfl) _).st (fun _=>Or.inl rfl) _).st (fun _=>Or.inl rfl) _).drew⟩
      rw [hWa]
      refine hK.out _ _ ?_ (fun hHeld=>?_)
      ·exact cellsBm (t0:=23) (t1:=41) (t2:=86) A10 A13 A14
      clear hK K
      (try simp only [Act.put,List.setIfInBounds_toArray,List.set_cons_zero,List.set_cons_succ])
      refine held_take (i:=5) (v:=?_) rfl (by kernel_rfl) (by kernel_rfl) (by kernel_rfl) (fun _ _ _ h=>h) (Or.inl ⟨by rfl,?_⟩) (by assumption) ?_
      rotate_left 1
      ·intro w hSw
       (try dsimp only at hSw)
       go_simp
       (try with_reducible rfl)
      (try simp only [Act.put,List.setIfInBounds_toArray,List.set_cons_zero,List.set_cons_succ])
      refine wpAnyH_ready (rs:=[6]) (by kernel_rfl) (by simp) ?_
      refine held_cons rfl (fun K hK=>?_) ?_
      ·have hcz:=HCL.out
       obtain ⟨u0,cu0⟩:=Ao.has (i:=x.val*6) (by omega)
       obtain ⟨u1,cu1⟩:=Ao.has (i:=x.val*6+1) (by omega)
       obtain ⟨u2,cu2⟩:=Ao.has (i:=x.val*6+2) (by omega)
       obtain ⟨u3,cu3⟩:=Ao.has (i:=x.val*6+3) (by omega)
       obtain ⟨u4,cu4⟩:=Ao.has (i:=x.val*6+4) (by omega)
       obtain ⟨u5,cu5⟩:=Ao.has (i:=x.val*6+5) (by omega)
       have cf:=Ao.thawed
       clear hcz
       go_simp
       clear u0 cu0 u1 cu1 u2 cu2 u3 cu3 u4 cu4 u5 cu5 cf
       obtain ⟨We,hWe,E5,Eo,E10,E13,E14,he9,heA,heB,hfe⟩:∃ We,((((((Wa.setCell ⟨wB.heap.size,x.val*6,none⟩ (.int .i64 (L.grad M G).W.rows)).setCell ⟨wB.heap.size,x.val*6+1,none⟩ (.int .i64 (L.grad M G).W.cols)).setCell ⟨wB.heap.size,x.val*6+2,none⟩ (.slice aA nA kA)).setCell ⟨wB.heap.size,x.val*6+3,none⟩ (.int .i64 (L.grad M G).B.rows)).setCell ⟨wB.heap.size,x.val*6+4,none⟩ (.int .i64 (L.grad M G).B.cols)).setCell ⟨wB.heap.size,x.val*6+5,none⟩ (.slice aB nB kB))=We ∧
         Box We (w.heap.size+1) [.int .i64 (L.back M G).rows,.int .i64 (L.back M G).cols,.slice a9 n9 k9] 41∧Box We wB.heap.size ((((((cs.set (x.val*6) (.int .i64 (L.grad M G).W.rows)).set (x.val*6+1) (.int .i64 (L.grad M G).W.cols)).set (x.val*6+2) (.slice aA nA kA)).set (x.val*6+3) (.int .i64 (L.grad M G).B.rows)).set (x.val*6+4) (.int .i64 (L.grad M G).B.cols)).set (x.val*6+5) (.slice aB nB kB)) 86 ∧
         Box We (wB.heap.size+1) [.slice (some ⟨wB.heap.size,0,none⟩) n n] 23∧Box We p13 [.int .i64 (L.back M G).rows,.int .i64 (L.back M G).cols,.slice a9 n9 k9] 41∧Box We p14 [.int .i64 (L.grad M G).W.rows,.int .i64 (L.grad M G).W.cols,.slice aA nA kA,.int .i64 (L.grad M G).B.rows,.int .i64 (L.grad M G).B.cols,.slice aB nB kB] 86∧IntsAt We a9 n9 k9 b9 o9 (L.back M G).cells∧IntsAt We aA nA kA bA oA (L.grad M G).W.cells∧IntsAt We aB nB kB bB' oB (L.grad M G).B.cells∧Far (fun b=>b=w.heap.size+1∨b=wB.heap.size) W We:=
        ⟨_,rfl,A5.k,(((((Ao.set _ _).set _ _).set _ _).set _ _).set _ _).set _ _,A10.k,A13.k,A14.k,(by repeat (first|(with_reducible first|exact ha9|refine IntsAt.alloc ?_ _|refine IntsAt.drewN ?_ _|refine IntsAt.drew ?_|(refine IntsAt.set ?_ ?_ _;rotate_left 1;(intro h0;have hq0:=hm9 h0;first|(dsimp only;omega)|omega|(simp;omega)|simp)))|exact ha9)),(by repeat (first|(with_reducible first|exact haA|refine IntsAt.alloc ?_ _|refine IntsAt.drewN ?_ _|refine IntsAt.drew ?_|(refine IntsAt.set ?_ ?_ _;rotate_left 1;(intro h0;have hq0:=hmA h0;first|(dsimp only;omega)|omega|(simp;omega)|simp)))|exact haA)),(by repeat (first|(with_reducible first|exact haB|refine IntsAt.alloc ?_ _|refine IntsAt.drewN ?_ _|refine IntsAt.drew ?_|(refine IntsAt.set ?_ ?_ _;rotate_left 1;(intro h0;have hq0:=hmB h0;first|(dsimp only;omega)|omega|(simp;omega)|simp)))|exact haB)),(((((hfa.st (fun _=>Or.inr rfl) _).st (fun _=>Or.inr rfl) _).st (fun _=>Or.inr rfl) _).st (fun _=>Or.inr rfl) _).st (fun _=>Or.inr rfl) _).st (fun _=>Or.inr rfl) _⟩
       rw [hWe]
       refine hK.out _ _ ?_ (fun hHeld=>?_)
       ·exact cellsBm (t0:=23) (t1:=41) (t2:=86) E10 E13 E14
       clear hK K A5 Ao A10 A13 A14 ha9 haA haB hfa hWe hWa
       (try simp only [Act.put,List.setIfInBounds_toArray,List.set_cons_zero,List.set_cons_succ])
       refine wpAnyH_done (by kernel_rfl) ?_ _
       refine ⟨keepsFrom_far hfe (by rintro k (e|e) <;> omega),hfe.wide (fun k _ h=>by rcases h with h|h;exact Or.inl h;exact Or.inr (Or.inl h)),?_⟩
       show BackSt _ _ ls ss g n wl (w.heap.size+1+1+1+1+1) (w.heap.size+1) wB.heap.size ((pre++[x]).map fun x=>x.val) We
       rw [List.map_append]
       exact backSt_next HST.out hxn HL.out HM.out HG2.out HF.out hfe hz5 (by omega) (by omega) HCL.out HCS.out E5 he9 hm9 Eo heA hmA heB hmB
      exact AllReadyH.nil
     exact AllReadyH.nil
    ·rw [errV_err hf]
     clear B13 B14 x9 xA xB
     have HF:=Lib.hid hf
     clear hf
     gi_wp2
     have hbe:Below w.heap.size w W9:=(Below.y1 hb9 hbW)
     have hfe:Far (fun b=>b=w.heap.size+1+1∨b=w.heap.size+1+1+1∨b=w.heap.size+1+1+1+1) W W9:=Far.of_below hb9
     refine ⟨keepsFrom_far (S:=fun b=>b=w.heap.size+1+1∨b=w.heap.size+1+1+1∨b=w.heap.size+1+1+1+1) ((((((hfe.st (fun _=>Or.inl rfl) _).st (fun _=>Or.inl rfl) _).st (fun _=>Or.inl rfl) _).st (fun _=>Or.inr (Or.inl rfl)) _).st (fun _=>Or.inr (Or.inr rfl)) _)) (by rintro k (e|e|e) <;> omega),pre,x,rfl,HST.out.ok,?_,?_,?_,?_,?_⟩
     ·rw [← HL.out,← HM.out,← HG2.out];exact HF.out
     ·exact (Below.y0 hbe)
     ·exact (by repeat (first|(with_reducible first|exact Q6|refine Box.alloc ?_ _|refine Box.drewN ?_ _|refine Box.drew ?_|refine Box.set6z ?_ _ _ _ _ _ _|refine Box.set3z ?_ _ _ _|refine Box.fx ?_ _)|exact Q6))
     ·exact Box.far (Box.set (show Box _ (w.heap.size+1+1+1) [.slice none 0 0] 23 from Q7.k) 0 _) (by dsimp only;omega) _
     ·rw [← HL.out,← HM.out,← HG2.out];exact Box.set (show Box _ (w.heap.size+1+1+1+1) [.nilIface] 33 from Q8.k) 0 _
  case done=>
   intro D pre W hD hpre hst hDh
   rw [hpre] at hst
   obtain ⟨hF0,⟨av,mv,cv,bv,ov,Q5,yg,hnv⟩,hrow⟩:=backSt_done hst (by unfold maxLen;omega) (by omega)
   have HF0:=Lib.hid hF0
   have Q6:=L6.farS hst.far (by rintro (e|e) <;> omega)
   have Q7:=L7.farS hst.far (by rintro (e|e) <;> omega)
   have Q8:=L8.farS hst.far (by rintro (e|e) <;> omega)
   have Q10:=L10.farS hst.far (by rintro (e|e) <;> omega)
   have hbW:Below w.heap.size w W:=Far.toBelow hbl hst.far (by omega) (by rintro k (e|e) <;> omega)
   have hzw':w.heap.size+1+1+1+1<wB.heap.size:=by omega
   have Q5:=Q5
   have Q5c:=Q5.cell
   have Q5f:=Q5.thawed
   have Q5z:=Q5.lt
   have Q5k:=lt_add Q5z
   have Q6:=Q6
   have Q6c:=Q6.cell
   have Q6f:=Q6.thawed
   have Q6z:=Q6.lt
   have Q6k:=lt_add Q6z
   have Q7:=Q7
   have Q7c:=Q7.cell
   have Q7f:=Q7.thawed
   have Q7z:=Q7.lt
   have Q7k:=lt_add Q7z
   have Q8:=Q8
   have Q8c:=Q8.cell
   have Q8f:=Q8.thawed
   have Q8z:=Q8.lt
   have Q8k:=lt_add Q8z
   have Q10:=Q10
   have Q10c:=Q10.cell
   have Q10f:=Q10.thawed
   have Q10z:=Q10.lt
   have Q10k:=lt_add Q10z
   clear L4 L5 L6 L7 L8 Lo L10 Lq xl hst hF0
   gi_wp2
   gi_region_with_o fail
   all_goals (
    gi_wp2
    have hfe:Far (fun b=>b=w.heap.size+1+1∨b=w.heap.size+1+1+1∨b=w.heap.size+1+1+1+1) W W:=Far.refl _ _
    obtain ⟨We,hWe,R6,R7,R8,hfe⟩:∃ We,(((((W.setCell ⟨w.heap.size+1+1,0,none⟩ (.int .i64 (bM ls ss g n n).rows)).setCell ⟨w.heap.size+1+1,1,none⟩ (.int .i64 (bM ls ss g n n).cols)).setCell ⟨w.heap.size+1+1,2,none⟩ (.slice av mv cv)).setCell ⟨w.heap.size+1+1+1,0,none⟩ (.slice (some ⟨wB.heap.size,0,none⟩) n n)).setCell ⟨w.heap.size+1+1+1+1,0,none⟩ .nilIface).drew=We ∧
      Box We (w.heap.size+1+1) [.int .i64 (bM ls ss g n n).rows,.int .i64 (bM ls ss g n n).cols,.slice av mv cv] 41∧Box We (w.heap.size+1+1+1) [.slice (some ⟨wB.heap.size,0,none⟩) n n] 23∧Box We (w.heap.size+1+1+1+1) [.nilIface] 33∧Far (fun b=>b=w.heap.size+1+1∨b=w.heap.size+1+1+1∨b=w.heap.size+1+1+1+1) W We:=
     ⟨_,rfl,(by repeat (first|(with_reducible first|exact Q6|refine Box.alloc ?_ _|refine Box.drewN ?_ _|refine Box.drew ?_|refine Box.set6z ?_ _ _ _ _ _ _|refine Box.set3z ?_ _ _ _|refine Box.fx ?_ _)|exact Q6)),Box.drew (Box.far (Box.set (show Box _ (w.heap.size+1+1+1) [.slice none 0 0] 23 from Q7.k) 0 _) (by dsimp only;omega) _),Box.drew (Box.set (show Box _ (w.heap.size+1+1+1+1) [.nilIface] 33 from Q8.k) 0 _),(((((hfe.st (fun _=>Or.inl rfl) _).st (fun _=>Or.inl rfl) _).st (fun _=>Or.inl rfl) _).st (fun _=>Or.inr (Or.inl rfl)) _).st (fun _=>Or.inr (Or.inr rfl)) _).drew⟩
    rw [hWe]
    have hDl:D<W.heap.size:=(Array.getElem?_eq_some_iff.1 hDh).1
    have hDe:=(hfe.block D hDl (by rintro (e|e|e) <;> omega)).trans hDh
    have yR:=yg.farS hfe (fun h=>by have:=hnv h;rintro (e|e|e) <;> omega)
    have rR:=RowAt.farS hrow hfe (fun b hb _=>by unfold newB at hb;rintro (e|e|e) <;> omega)
    have hbe:=Far.toBelow hbW hfe (by omega) (by rintro k (e|e|e) <;> omega)
    refine ⟨by simp,.inl ⟨_,_,rfl,run_takeDeferred hDe,?_⟩⟩
    have Z6:=R6.block (World.putObj_heap_other (r:=D) (o:=.deferred none) (by omega))
    have Z7:=R7.block (World.putObj_heap_other (r:=D) (o:=.deferred none) (by omega))
    have Z8:=R8.block (World.putObj_heap_other (r:=D) (o:=.deferred none) (by omega))
    refine ⟨.tuple #[.agg #[.int .i64 (bM ls ss g n n).rows,.int .i64 (bM ls ss g n n).cols,.slice av mv cv],.slice (some ⟨wB.heap.size,0,none⟩) n n,.nilIface],by simp [results,Tryz.results61,go_sem,Z6.cell,Z7.cell,Z8.cell],_,_,by rw [HF0.out];rfl,hbe.trans (belowK_b (w:=w) (Nat.le_refl _) We D _ _ (by omega) hDe rfl rfl),fun _=>⟨⟨av,mv,cv,bv,ov,rfl,fun h=>by have:=hnv h;omega,ints_grown yR (grownBy_putObj' _ _ _) (fun r e=>by cases e;exact ⟨_,hDe,rfl⟩)⟩,_,_,_,rfl,(row_grown rR (grownBy_putObj' _ _ _) (fun r e=>by cases e;exact ⟨_,hDe,rfl⟩)).wide (fun b hb _=>by unfold newB at *;omega)⟩,fun h=>absurd HF0.out h⟩)
  case stop=>
   rintro D pre W hD ⟨t,htn,hpre⟩ ⟨p,x,rfl,hok,hfx,hbW,R6,R7,R8⟩ hDh
   rw [List.map_append,descs_succ] at hpre
   obtain ⟨hp1,hp2⟩:=List.append_inj' hpre rfl
   have hxv:x.val=n - 1 - t:=by simpa using hp2
   rw [hp1] at hok hfx R8
   rw [(gone_descs n t (by omega)).1,hxv] at hfx R8
   have hbf:=bF_stop htn (bF_descs n t (by omega) hok) hfx
   rw [← hbf] at hfx R8
   have HF:=Lib.hid hfx
   clear hfx hbf hok hpre hp1 hp2 hxv L4 L5 L6 L7 L8 Lo L10 Lq xl
   gi_wp2
   refine ⟨by simp,.inl ⟨_,_,rfl,run_takeDeferred hDh,?_⟩⟩
   have Z6:=R6.block (World.putObj_heap_other (r:=D) (o:=.deferred none) (by omega))
   have Z7:=R7.block (World.putObj_heap_other (r:=D) (o:=.deferred none) (by omega))
   have Z8:=R8.block (World.putObj_heap_other (r:=D) (o:=.deferred none) (by omega))
   exact ⟨.tuple #[.agg #[.int .i64 0,.int .i64 0,.slice none 0 0],.slice none 0 0,.iface 36 (.int .i64 (bF ls ss g n n))],by simp [results,Tryz.results61,go_sem,Z6.cell,Z7.cell,Z8.cell],_,_,by rw [errV_err HF.out],hbW.trans (belowK_b (w:=w) (Nat.le_refl _) W D _ _ (by omega) hDh rfl rfl),fun h=>absurd h HF.out,fun _=>⟨rfl,rfl⟩⟩
end Go.Proofs.YtchngeagnlngaaaGreatDoor
end
