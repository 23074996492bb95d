/- Texts joined: Ref4, Uni. -/
import Derived.Test.YtchngeagnlngaaaGreatDoorJ14
import Derived.Test.YtchngeagnlngaaaGreatDoorJ01
import Derived.Test.YtchngeagnlngaaaGreatDoorJ11
import Derived.Test.YtchngeagnlngaaaGreatDoorJ13
import Derived.Test.YtchngeagnlngaaaGreatDoorJ12
set_option linter.unusedVariables false
set_option linter.unusedSimpArgs false
section
namespace Go.Proofs.YtchngeagnlngaaaGreatDoor
open Go.RowKit Gal
set_option maxRecDepth 100000 in
set_option maxHeartbeats 2000000 in
theorem refMatMul_any (R K C:Nat) (hR:R≤24) (hK:K≤24) (hC:C≤12) (xs ys:List Int) (va vb:Value) (w:World) (ha:MatAt w va ⟨R,K,xs⟩) (hb:MatAt w vb ⟨K,C,ys⟩) (hl0:xs.length=R*K) (hl1:ys.length=K*C) (hRK:R*K≤288) (hKC:K*C≤288) :
  Calls Tryz.prog 93 #[va,vb] w fun e w'=>∃ v,e=.returned v∧MatNew w.heap.size w' v (matMul ⟨R,K,xs⟩ ⟨K,C,ys⟩)∧Below w.heap.size w w':=by
 obtain ⟨a0,n0,k0,b0,o0,rfl,h0⟩:=ha
 obtain ⟨a1,n1,k1,b1,o1,rfl,h1⟩:=hb
 dsimp only at h0 h1
 obtain rfl:R*K=n0:=by rw [← hl0];exact h0.len
 obtain rfl:K*C=n1:=by rw [← hl1];exact h1.len
 have hRC:R*C≤288:=Nat.mul_le_mul hR hC
 go_enter Tryz.func93,Tryz.ntmps93
 go_wp2_with fail
 refine (blank_any R C hR (by omega) _).mono ?_
 rintro e w1 ⟨b,rfl,hbb,hB,hb1⟩
 go_wp2
 have hw1:Below w.heap.size w w1:=(Below.x1 hb1)
 have hzb:b<w1.heap.size:=hB.lt
 have hz1:=hb1.size
 simp at hz1 hbb
 have B0:=(((Box.new w [.int .i64 R,.int .i64 K,.slice a0 (R*K) k0] 41).alloc _).alloc _).keep hb1
 have B0c:=B0.cell
 have B0f:=B0.thawed
 have B0z:=B0.lt
 have B0k:=lt_add B0z
 have B1:=((Box.new' _ (w.heap.size+1) [.int .i64 K,.int .i64 C,.slice a1 (K*C) k1] 41 (by simp)).alloc _).keep hb1
 have B1c:=B1.cell
 have B1f:=B1.thawed
 have B1z:=B1.lt
 have B1k:=lt_add B1z
 have B2:=(Box.new' _ (w.heap.size+1+1) [.int .i64 0,.int .i64 0,.slice none 0 0] 41 (by simp)).keep hb1
 have B2c:=B2.cell
 have B2f:=B2.thawed
 have B2z:=B2.lt
 have B2k:=lt_add B2z
 have l0:=h0.lt
 have l1:=h1.lt
 replace h0:=h0.keep hw1
 replace h1:=h1.keep hw1
 go_loopw [6] (fun i wr=>∃ k:Nat,k≤K∧i=.int .i64 k∧Far (·=b) w1 wr∧Box wr w1.heap.size [.int .i64 R,.int .i64 C,.slice (some ⟨b,0,none⟩) (R*C) (R*C)] 41 ∧
   Box wr b ((upto (mulS xs ys K C k (0*C+0)) (R*C)).map (Value.int .i64)) 3) (fun i _=>K - (intOf i).toNat)
 case atStart=>exact ⟨0,Nat.zero_le _,rfl,(Far.refl _ _).al _,Box.new _ _ _,by rw [show 0*C+0=0 by omega,mulS_zero];exact hB.alloc _⟩
 case round=>
  obtain ⟨k,hk,rfl,hfr,Bm,Bc⟩:=hrel
  have Bmc:=Bm.cell
  have Bmf:=Bm.thawed
  have Bmz:=Bm.lt
  have B0':=B0.farS hfr (by omega)
  have B0c':=B0'.cell
  by_cases hlt:k<K
  ·go_wp2
   obtain ⟨wo,hwo⟩:∃ wo:World,wo=wr:=⟨_,rfl⟩
   clear Bmc Bmf Bmz B0' B0c'
   go_loopw [7] (fun i wr=>∃ r:Nat,r≤R∧i=.int .i64 r∧Far (·=b) w1 wr∧Box wr w1.heap.size [.int .i64 R,.int .i64 C,.slice (some ⟨b,0,none⟩) (R*C) (R*C)] 41 ∧
     Box wr b ((upto (mulS xs ys K C k (r*C+0)) (R*C)).map (Value.int .i64)) 3) (fun i _=>R - (intOf i).toNat)
   case atStart=>exact ⟨0,Nat.zero_le _,rfl,hfr,Bm,Bc⟩
   case round=>
    obtain ⟨r,hr,rfl,hfr,Bm,Bc⟩:=hrel
    have Bmc:=Bm.cell
    have Bmf:=Bm.thawed
    have Bmz:=Bm.lt
    have B0':=B0.farS hfr (by omega)
    have B0c':=B0'.cell
    by_cases hltr:r<R
    ·go_wp2
     obtain ⟨wo2,hwo2⟩:∃ wo:World,wo=wr:=⟨_,rfl⟩
     clear Bmc Bmf Bmz B0' B0c'
     go_loopw [8,9] (fun j _ wr=>∃ l:Nat,l≤C∧j=.int .i64 l∧Far (·=b) w1 wr∧Box wr w1.heap.size [.int .i64 R,.int .i64 C,.slice (some ⟨b,0,none⟩) (R*C) (R*C)] 41 ∧
       Box wr b ((upto (mulS xs ys K C k (r*C+l)) (R*C)).map (Value.int .i64)) 3) (fun j _ _=>C - (intOf j).toNat)
     case atStart=>exact ⟨0,Nat.zero_le _,rfl,hfr,Bm,Bc⟩
     case round=>
      obtain ⟨l,hl,rfl,hfr,Bm,Bc⟩:=hrel
      have Bmc:=Bm.cell
      have Bmf:=Bm.thawed
      have Bmz:=Bm.lt
      replace B0:=B0.farS hfr (by omega)
      have B0c:=B0.cell
      have B0f:=B0.thawed
      have B0z:=B0.lt
      have B0k:=lt_add B0z
      replace B1:=B1.farS hfr (by omega)
      have B1c:=B1.cell
      have B1f:=B1.thawed
      have B1z:=B1.lt
      have B1k:=lt_add B1z
      replace B2:=B2.farS hfr (by omega)
      have B2c:=B2.cell
      have B2f:=B2.thawed
      have B2z:=B2.lt
      have B2k:=lt_add B2z
      replace h0:=h0.farS hfr (by intro hn e;have:=l0 hn;omega)
      replace h1:=h1.farS hfr (by intro hn e;have:=l1 hn;omega)
      by_cases hltl:l<C
      ·have hrk:=cell_lt hltr hlt
       have hkl:=cell_lt hlt hltl
       have hrl:=cell_lt hltr hltl
       obtain rfl:=h0.ptr (by omega)
       obtain rfl:=h1.ptr (by omega)
       have c0:=h0.cell _ hrk
       have c1:=h1.cell _ hkl
       have cc:=Bc.icell (k:=r*C+l) (by rw [upto_length];exact hrl)
       rw [upto_ix hrl,mulS_at hltl] at cc
       have cf:=Bc.thawed (r*C+l)
       have e1:(r:Int)*K≤288:=by rw [← Int.natCast_mul];omega
       have e2:(0:Int)≤(r:Int)*K:=by rw [← Int.natCast_mul];omega
       have e3:(k:Int)*C≤288:=by rw [← Int.natCast_mul];omega
       have e4:(0:Int)≤(k:Int)*C:=by rw [← Int.natCast_mul];omega
       have e5:(r:Int)*C≤288:=by rw [← Int.natCast_mul];omega
       have e6:(0:Int)≤(r:Int)*C:=by rw [← Int.natCast_mul];omega
       have y1:IntKind.i64.wrap ((r:Int)*K)=(r:Int)*K:=IntWalk.i64_in _ (by omega)
       have y2:IntKind.i64.wrap ((r:Int)*K+k)=(r:Int)*K+k:=IntWalk.i64_in _ (by omega)
       have y3:IntKind.i64.wrap ((k:Int)*C)=(k:Int)*C:=IntWalk.i64_in _ (by omega)
       have y4:IntKind.i64.wrap ((k:Int)*C+l)=(k:Int)*C+l:=IntWalk.i64_in _ (by omega)
       have y5:IntKind.i64.wrap ((r:Int)*C)=(r:Int)*C:=IntWalk.i64_in _ (by omega)
       have y6:IntKind.i64.wrap ((r:Int)*C+l)=(r:Int)*C+l:=IntWalk.i64_in _ (by omega)
       have z1:(r:Int)*K+k<(R:Int)*K:=by rw [← Int.natCast_mul,← Int.natCast_mul];omega
       have z2:0≤(r:Int)*K+k:=by omega
       have z3:((r:Int)*K+k).toNat=r*K+k:=by rw [← Int.natCast_mul];omega
       have z4:(k:Int)*C+l<(K:Int)*C:=by rw [← Int.natCast_mul,← Int.natCast_mul];omega
       have z5:0≤(k:Int)*C+l:=by omega
       have z6:((k:Int)*C+l).toNat=k*C+l:=by rw [← Int.natCast_mul];omega
       have z7:(r:Int)*C+l<(R:Int)*C:=by rw [← Int.natCast_mul,← Int.natCast_mul];omega
       have z8:0≤(r:Int)*C+l:=by omega
       have z9:((r:Int)*C+l).toNat=r*C+l:=by rw [← Int.natCast_mul];omega
       go_wp2_with fail
       go_quiet ((go_at_call 75;first|exact quiet0 (rmul_any _ _)|exact quiet1 (rmul_any _ _)))
       have hfq:=hfr.drN nq
       have Bmq:=Bm.drewN nq
       have Bcq:=Bc.drewN nq
       clear Bmc Bmf cc cf c0 c1 B0c B0f B1c B1f B2c B2f
       generalize wr.drewN nq=wq at hfq Bmq Bcq ⊢
       have Bmc:=Bmq.cell
       have cc:=Bcq.icell (k:=r*C+l) (by rw [upto_length];exact hrl)
       rw [upto_ix hrl,mulS_at hltl] at cc
       have cf:=Bcq.thawed (r*C+l)
       go_wp2_with fail
       refine wp_region_still_tail 20 (by kernel_rfl) (by kernel_rfl) ?_
       simp only [List.take_succ_cons,List.take_zero,List.drop_succ_cons,List.drop_zero]
       repeat (first|still_call (still0 (radd_any _ _ _))|still_step)
       refine wpStill_nil ?_
       go_wp2
       go_roundw
       case rel=>
        refine ⟨l+1,by omega,by go_num,(hfq.drew).st (fun _=>rfl) _,Bmq.far (a:=⟨b,r*C+l,none⟩) (by dsimp only;omega) _,?_⟩
        have hs:=Bcq.iset (r*C+l) (add (sumTo (fun t=>mul (ix xs (r*K+t)) (ix ys (t*C+l))) k) (mul (ix xs (r*K+k)) (ix ys (k*C+l))))
        rw [mulS_cell hltr hltl] at hs
        exact hs
       case measure=>simp [intOf];omega
      ·obtain rfl:l=C:=by omega
       go_wp2
       go_roundw
       case rel=>exact ⟨r+1,by omega,by go_num,hfr,Bm,by rw [← mulS_row];exact Bc⟩
       case measure=>simp [intOf];omega
    ·obtain rfl:r=R:=by omega
     go_wp2
     go_roundw
     case rel=>exact ⟨k+1,by omega,by go_num,hfr,Bm,by rw [← mulS_next];exact Bc⟩
     case measure=>simp [intOf];omega
  ·obtain rfl:k=K:=by omega
   replace B2:=B2.farS hfr (by omega)
   have B2c:=B2.cell
   have B2f:=B2.thawed
   have B2z:=B2.lt
   have B2k:=lt_add B2z
   have hbl:=Far.toBelow hw1 hfr (by omega) (by rintro k rfl;omega)
   go_wp2
   refine bodyPost_ret (v:=.agg #[.int .i64 R,.int .i64 C,.slice (some ⟨b,0,none⟩) (R*C) (R*C)]) (by simp [results,Tryz.results93,go_sem,B2c]) rfl ⟨_,rfl,?_,(Below.y0 hbl)⟩
   rw [← mulS_all]
   exact MatNew.mk (fun _=>by omega) ((ints_upto Bc (by unfold maxLen;omega)).set3 (fun _=>by omega) _ _ _)
theorem half_is {s:Int} (h0:0≤s) (h1:s≤2147483647):mul s 128=s / 2:=by
 have e1:clamp s=s:=clamp_id (by omega) h1
 have e2:clamp 128=128:=rfl
 unfold mul
 rw [e1,e2,clamp_id (by omega) (by omega)]
 omega
theorem sq_le (l:List Int):sqSum l≤2147483647:=by
 unfold sqSum
 rcases List.eq_nil_or_concat l with h|⟨l',d,h⟩
 ·rw [h];decide
 ·rw [h,List.concat_eq_append,List.foldl_append]
  exact clamp_hi _
set_option maxRecDepth 100000 in
set_option maxHeartbeats 2000000 in
theorem refLossOf_any (R K:Nat) (hR:R≤24) (hK:K≤12) (xs ys:List Int) (va vb:Value) (w:World) (ha:MatAt w va ⟨R,K,xs⟩) (hb:MatAt w vb ⟨R,K,ys⟩) (hl0:xs.length=R*K) (hl1:ys.length=R*K) :
  Calls Tryz.prog 45 #[va,vb] w fun e w'=>∃ v,e=.returned (.tuple #[.int .i64 (lossOf ⟨R,K,xs⟩ ⟨R,K,ys⟩),v])∧MatNew w.heap.size w' v (lossBack ⟨R,K,xs⟩ ⟨R,K,ys⟩)∧Below w.heap.size w w':=by
 unfold lossOf lossBack
 dsimp only
 rw [hl0]
 obtain ⟨a0,n0,k0,b0,o0,rfl,h0⟩:=ha
 obtain ⟨a1,n1,k1,b1,o1,rfl,h1⟩:=hb
 dsimp only at h0 h1
 obtain rfl:R*K=n0:=by rw [← hl0];exact h0.len
 obtain rfl:R*K=n1:=by rw [← hl1];exact h1.len
 have hrk:R*K≤288:=Nat.mul_le_mul hR hK
 go_enter Tryz.func45,Tryz.ntmps45
 go_wp2_with fail
 refine (blank_any R K (by omega) (by omega) _).mono ?_
 rintro e w1 ⟨b,rfl,hbb,hB,hb1⟩
 go_wp2
 have hw1:Below w.heap.size w w1:=(Below.x1 hb1)
 have hzb:b<w1.heap.size:=hB.lt
 have hz1:=hb1.size
 simp at hz1 hbb
 have B0:=(((Box.new w [.int .i64 R,.int .i64 K,.slice a0 (R*K) k0] 41).alloc _).alloc _).keep hb1
 have B0c:=B0.cell
 have B0f:=B0.thawed
 have B0z:=B0.lt
 have B0k:=lt_add B0z
 have B1:=((Box.new' _ (w.heap.size+1) [.int .i64 R,.int .i64 K,.slice a1 (R*K) k1] 41 (by simp)).alloc _).keep hb1
 have B1c:=B1.cell
 have B1f:=B1.thawed
 have B1z:=B1.lt
 have B1k:=lt_add B1z
 have B2:=(Box.new' _ (w.heap.size+1+1) [.int .i64 0,.int .i64 0,.slice none 0 0] 41 (by simp)).keep hb1
 have B2c:=B2.cell
 have B2f:=B2.thawed
 have B2z:=B2.lt
 have B2k:=lt_add B2z
 have l0:=h0.lt
 have l1:=h1.lt
 replace h0:=h0.keep hw1
 replace h1:=h1.keep hw1
 go_loopw [7,8,9] (fun s i _ wr=>∃ k:Nat,k≤R*K∧i=.int .i64 k∧s=.int .i64 (sqSum (offs xs ys k))∧Far (·=b) w1 wr∧Box wr w1.heap.size [.int .i64 R,.int .i64 K,.slice (some ⟨b,0,none⟩) (R*K) (R*K)] 41 ∧
   Box wr b ((pad (fun k=>sub (ix xs k) (ix ys k)) (R*K) k).map (Value.int .i64)) 3) (fun _ i _ _=>R*K - (intOf i).toNat)
 case atStart=>exact ⟨0,Nat.zero_le _,rfl,rfl,(Far.refl _ _).al _,Box.new _ _ _,by rw [pad_zero];exact hB.alloc _⟩
 case round=>
  obtain ⟨k,hk,rfl,rfl,hfr,Bm,Bc⟩:=hrel
  have Bmc:=Bm.cell
  have Bmf:=Bm.thawed
  have Bmz:=Bm.lt
  replace B0:=B0.farS hfr (by omega)
  have B0c:=B0.cell
  have B0f:=B0.thawed
  have B0z:=B0.lt
  have B0k:=lt_add B0z
  replace B1:=B1.farS hfr (by omega)
  have B1c:=B1.cell
  have B1f:=B1.thawed
  have B1z:=B1.lt
  have B1k:=lt_add B1z
  replace B2:=B2.farS hfr (by omega)
  have B2c:=B2.cell
  have B2f:=B2.thawed
  have B2z:=B2.lt
  have B2k:=lt_add B2z
  replace h0:=h0.farS hfr (by intro hn e;have:=l0 hn;omega)
  replace h1:=h1.farS hfr (by intro hn e;have:=l1 hn;omega)
  by_cases hlt:k<R*K
  ·obtain rfl:=h0.ptr (by omega)
   obtain rfl:=h1.ptr (by omega)
   have c0:=h0.cell k hlt
   have c1:=h1.cell k hlt
   have cc:=Bc.icell (k:=k) (by rw [pad_length];exact hlt)
   rw [pad_ix hlt,if_neg (Nat.lt_irrefl _)] at cc
   have hltI:(k:Int)<(R:Int)*K:=by rw [← Int.natCast_mul];omega
   have cf:=Bc.thawed k
   go_wp2_with fail
   refine wp_region_still_tail 14 (by kernel_rfl) (by kernel_rfl) ?_
   simp only [List.take_succ_cons,List.take_zero,List.drop_succ_cons,List.drop_zero]
   repeat (first|still_call (still0 (rsub_any _ _ _))|still_step)
   refine wpStill_nil ?_
   have hfq:=(hfr.drew).st (a:=⟨b,k,none⟩) (fun _=>rfl) (.int .i64 (sub (ix xs k) (ix ys k)))
   have Bmq:=(Bm.drew).far (a:=⟨b,k,none⟩) (by dsimp only;omega) (.int .i64 (sub (ix xs k) (ix ys k)))
   have Bcq:=(Bc.drew).iset k (sub (ix xs k) (ix ys k))
   rw [pad_set (g:=fun k=>sub (ix xs k) (ix ys k)) hlt] at Bcq
   go_wp2_with fail
   clear Bmc Bmf cc cf c0 c1 B0c B0f B1c B1f B2c B2f
   try rw [← World.setCell_drew]
   generalize wr.drew.setCell ⟨b,k,none⟩ (.int .i64 (sub (ix xs k) (ix ys k)))=wq at hfq Bmq Bcq ⊢
   have Bmc:=Bmq.cell
   have cc:=Bcq.icell (k:=k) (by rw [pad_length];exact hlt)
   rw [pad_ix hlt,if_pos (Nat.lt_succ_self _)] at cc
   go_quiet ((go_at_call 75;first|exact quiet0 (rmul_any _ _)|exact quiet1 (rmul_any _ _)))
   go_wp2_with (go_at_call 21;refine (radd_any _ _ _).mono ?_;rintro e w' ⟨rfl,rfl⟩)
   go_roundw
   case rel=>
    refine ⟨k+1,by omega,by go_num,?_,hfq.drN _,Bmq.drewN _,Bcq.drewN _⟩
    unfold offs
    rw [upto_succ,sqSum_snoc]
   case measure=>simp [intOf];omega
  ·obtain rfl:k=R*K:=by omega
   have hbl:=Far.toBelow hw1 hfr (by omega) (by rintro k rfl;omega)
   have hs0:=sqSum_nn (offs xs ys (R*K))
   have hs1:=sq_le (offs xs ys (R*K))
   have hhalf:=half_is hs0 hs1
   have HH:=Lib.hid hhalf
   clear hhalf
   go_wp2
   go_region
   all_goals
    go_wp2
    rw [HH.out]
    refine bodyPost_ret (v:=.tuple #[.int .i64 (sqSum (offs xs ys (R*K)) / 2),.agg #[.int .i64 R,.int .i64 K,.slice (some ⟨b,0,none⟩) (R*K) (R*K)]]) (by simp [results,Tryz.results45,go_sem,B2c]) rfl ⟨_,rfl,?_,(Below.y0 hbl)⟩
    exact MatNew.mk (fun _=>by omega) (((ints_pad Bc (by unfold maxLen;omega)).drewN 1).set3 (fun _=>by omega) _ _ _)
end Go.Proofs.YtchngeagnlngaaaGreatDoor
end
section
namespace Go.Proofs.YtchngeagnlngaaaGreatDoor
open Go.RowKit Gal
theorem fault_form {m:Mat} (h:m.fault=0):∃ (R K:Nat) (xs:List Int),m=⟨R,K,xs⟩∧R≤24∧K≤12∧xs.length=R*K∧inEnds xs:=by
 obtain ⟨R,K,eR,eK,hR,hK,hl,he⟩:=matFault_ok h
 obtain ⟨r,c,xs⟩:=m
 dsimp only at eR eK hl he
 subst eR eK
 exact ⟨R,K,xs,rfl,hR,hK,hl,he⟩
theorem refMatAdd_all (ma mb:Mat) (va vb:Value) (w:World) (ha:MatAt w va ma) (hb:MatAt w vb mb) (hf:lossFault ma mb=0) :
  Calls Tryz.prog 48 #[va,vb] w fun e w'=>∃ v,e=.returned v∧MatNew w.heap.size w' v (matAdd ma mb)∧Below w.heap.size w w':=by
 obtain ⟨fa,fb,er,ec⟩:=lossFault_ok hf
 obtain ⟨R,K,xs,rfl,hR,hK,hla,_⟩:=fault_form fa
 obtain ⟨R',K',ys,rfl,_,_,hlb,_⟩:=fault_form fb
 dsimp only at er ec
 obtain rfl:R=R':=by omega
 obtain rfl:K=K':=by omega
 have:=refMatAdd_any R K hR hK xs ys va vb w ha hb hla hlb
 unfold matAdd
 rw [hla]
 exact this
theorem refMatMul_all (ma mb:Mat) (va vb:Value) (w:World) (ha:MatAt w va ma) (hb:MatAt w vb mb) (hf:mulFault ma mb=0) :
  Calls Tryz.prog 93 #[va,vb] w fun e w'=>∃ v,e=.returned v∧MatNew w.heap.size w' v (matMul ma mb)∧Below w.heap.size w w':=by
 obtain ⟨hc,hcr⟩:=mulFault_ok hf
 obtain ⟨fa,fb⟩:=firstFault_two.1 hc
 obtain ⟨R,K,xs,rfl,hR,hK,hla,_⟩:=fault_form fa
 obtain ⟨R',K',ys,rfl,hR',hK',hlb,_⟩:=fault_form fb
 dsimp only at hcr
 obtain rfl:K=R':=by omega
 exact refMatMul_any R K K' hR hR' hK' xs ys va vb w ha hb hla hlb (Nat.mul_le_mul hR hK) (Nat.mul_le_mul hR' hK')
theorem refMatTurn_all (ma:Mat) (va:Value) (w:World) (ha:MatAt w va ma) (hf:ma.fault=0) :
  Calls Tryz.prog 94 #[va] w fun e w'=>∃ v,e=.returned v∧MatNew w.heap.size w' v (matTurn ma)∧Below w.heap.size w w':=by
 obtain ⟨R,K,xs,rfl,hR,hK,hla,_⟩:=fault_form hf
 exact refMatTurn_any R K hR hK xs va w ha hla
theorem refMatTimes_all (ma:Mat) (x:Int) (va:Value) (w:World) (ha:MatAt w va ma) (hf:ma.fault=0) :
  Calls Tryz.prog 78 #[va,.int .i64 x] w fun e w'=>∃ v,e=.returned v∧MatNew w.heap.size w' v (matTimes ma x)∧Below w.heap.size w w':=by
 obtain ⟨R,K,xs,rfl,hR,hK,hla,_⟩:=fault_form hf
 have:=refMatTimes_any R K hR hK xs x va w ha hla
 unfold matTimes
 rw [hla]
 exact this
theorem refMatSums_all (ma:Mat) (va:Value) (w:World) (ha:MatAt w va ma) (hf:ma.fault=0) :
  Calls Tryz.prog 95 #[va] w fun e w'=>∃ v,e=.returned v∧MatNew w.heap.size w' v (matSums ma)∧Below w.heap.size w w':=by
 obtain ⟨R,K,xs,rfl,hR,hK,hla,_⟩:=fault_form hf
 exact refMatSums_any R K hR hK xs va w ha hla
theorem refMatRows_all (ma:Mat) (lo hi:Int) (va:Value) (w:World) (ha:MatAt w va ma) (hf:rowsFault ma lo hi=0) :
  Calls Tryz.prog 70 #[va,.int .i64 lo,.int .i64 hi] w fun e w'=>∃ v,e=.returned v∧MatNew w.heap.size w' v (matRows ma lo hi)∧Below w.heap.size w w':=by
 obtain ⟨fa,q0,q1,q2⟩:=rowsFault_ok hf
 obtain ⟨R,K,xs,rfl,hR,hK,hla,_⟩:=fault_form fa
 obtain ⟨L,rfl⟩:=Int.eq_ofNat_of_zero_le q0
 obtain ⟨H,rfl⟩:=Int.eq_ofNat_of_zero_le (show 0≤hi by omega)
 dsimp only at q2
 exact refMatRows_any R K L H hR hK (by omega) (by omega) xs va w ha hla
theorem refLossOf_all (ma mb:Mat) (va vb:Value) (w:World) (ha:MatAt w va ma) (hb:MatAt w vb mb) (hf:lossFault ma mb=0) :
  Calls Tryz.prog 45 #[va,vb] w fun e w'=>∃ v,e=.returned (.tuple #[.int .i64 (lossOf ma mb),v])∧MatNew w.heap.size w' v (lossBack ma mb)∧Below w.heap.size w w':=by
 obtain ⟨fa,fb,er,ec⟩:=lossFault_ok hf
 obtain ⟨R,K,xs,rfl,hR,hK,hla,_⟩:=fault_form fa
 obtain ⟨R',K',ys,rfl,_,_,hlb,_⟩:=fault_form fb
 dsimp only at er ec
 obtain rfl:R=R':=by omega
 obtain rfl:K=K':=by omega
 exact refLossOf_any R K hR hK xs ys va vb w ha hb hla hlb
end Go.Proofs.YtchngeagnlngaaaGreatDoor
end
