/- Texts joined: Ref2, Ref3. -/
import Derived.Test.YtchngeagnlngaaaGreatDoorJ13
import Derived.Test.YtchngeagnlngaaaGreatDoorJ01
import Derived.Test.YtchngeagnlngaaaGreatDoorJ05
import Derived.BigQuiet
import Derived.BigRegion
set_option linter.unusedVariables false
set_option linter.unusedSimpArgs false
section
namespace Go.Proofs.YtchngeagnlngaaaGreatDoor
open Go.RowKit Gal
theorem ints_pad {w:World} {b n:Nat} {g:Nat→Int} {t:TypeId} (h:Box w b ((pad g n n).map (Value.int .i64)) t) (hl:n≤maxLen):IntsAt w (some ⟨b,0,none⟩) n n b 0 (upto g n):=by
 rw [pad_full] at h
 have:=ints_box h (by rw [upto_length];exact hl)
 rw [upto_length] at this
 exact this
set_option maxRecDepth 100000 in
set_option maxHeartbeats 1000000 in
theorem refMatAdd_any (R K:Nat) (hR:R≤24) (hK:K≤12) (xs ys:List Int) (va vb:Value) (w:World) (ha:MatAt w va ⟨R,K,xs⟩) (hb:MatAt w vb ⟨R,K,ys⟩) (hl0:xs.length=R*K) (hl1:ys.length=R*K) :
  Calls Tryz.prog 48 #[va,vb] w fun e w'=>∃ v,e=.returned v∧MatNew w.heap.size w' v ⟨R,K,upto (fun k=>add (ix xs k) (ix ys k)) (R*K)⟩∧Below w.heap.size w w':=by
 obtain ⟨a0,n0,k0,b0,o0,rfl,h0⟩:=ha
 obtain ⟨a1,n1,k1,b1,o1,rfl,h1⟩:=hb
 dsimp only at h0 h1
 obtain rfl:R*K=n0:=by rw [← hl0];exact h0.len
 obtain rfl:R*K=n1:=by rw [← hl1];exact h1.len
 have hrk:R*K≤288:=Nat.mul_le_mul hR hK
 go_enter Tryz.func48,Tryz.ntmps48
 go_wp2_with fail
 refine (blank_any R K (by omega) (by omega) _).mono ?_
 rintro e w1 ⟨b,rfl,hbb,hB,hb1⟩
 go_wp2
 have hw1:Below w.heap.size w w1:=(Below.x1 hb1)
 have hzb:b<w1.heap.size:=hB.lt
 have hz1:=hb1.size
 simp at hz1 hbb
 have B0:=(((Box.new w [.int .i64 R,.int .i64 K,.slice a0 (R*K) k0] 41).alloc _).alloc _).keep hb1
 have B0c:=B0.cell
 have B0f:=B0.thawed
 have B0z:=B0.lt
 have B0k:=lt_add B0z
 have B1:=((Box.new' _ (w.heap.size+1) [.int .i64 R,.int .i64 K,.slice a1 (R*K) k1] 41 (by simp)).alloc _).keep hb1
 have B1c:=B1.cell
 have B1f:=B1.thawed
 have B1z:=B1.lt
 have B1k:=lt_add B1z
 have B2:=(Box.new' _ (w.heap.size+1+1) [.int .i64 0,.int .i64 0,.slice none 0 0] 41 (by simp)).keep hb1
 have B2c:=B2.cell
 have B2f:=B2.thawed
 have B2z:=B2.lt
 have B2k:=lt_add B2z
 have l0:=h0.lt
 have l1:=h1.lt
 replace h0:=h0.keep hw1
 replace h1:=h1.keep hw1
 go_loopw [6] (fun i wr=>∃ k:Nat,k≤R*K∧i=.int .i64 k∧Far (·=b) w1 wr∧Box wr w1.heap.size [.int .i64 R,.int .i64 K,.slice (some ⟨b,0,none⟩) (R*K) (R*K)] 41 ∧
   Box wr b ((pad (fun k=>add (ix xs k) (ix ys k)) (R*K) k).map (Value.int .i64)) 3) (fun i _=>R*K - (intOf i).toNat)
 case atStart=>exact ⟨0,Nat.zero_le _,rfl,(Far.refl _ _).al _,Box.new _ _ _,by rw [pad_zero];exact hB.alloc _⟩
 case round=>
  obtain ⟨k,hk,rfl,hfr,Bm,Bc⟩:=hrel
  have Bmc:=Bm.cell
  have Bmf:=Bm.thawed
  have Bmz:=Bm.lt
  replace B0:=B0.farS hfr (by omega)
  have B0c:=B0.cell
  have B0f:=B0.thawed
  have B0z:=B0.lt
  have B0k:=lt_add B0z
  replace B1:=B1.farS hfr (by omega)
  have B1c:=B1.cell
  have B1f:=B1.thawed
  have B1z:=B1.lt
  have B1k:=lt_add B1z
  replace B2:=B2.farS hfr (by omega)
  have B2c:=B2.cell
  have B2f:=B2.thawed
  have B2z:=B2.lt
  have B2k:=lt_add B2z
  replace h0:=h0.farS hfr (by intro hn e;have:=l0 hn;omega)
  replace h1:=h1.farS hfr (by intro hn e;have:=l1 hn;omega)
  by_cases hlt:k<R*K
  ·obtain rfl:=h0.ptr (by omega)
   obtain rfl:=h1.ptr (by omega)
   have c0:=h0.cell k hlt
   have c1:=h1.cell k hlt
   have cc:=Bc.icell (k:=k) (by rw [pad_length];exact hlt)
   rw [pad_ix hlt,if_neg (Nat.lt_irrefl _)] at cc
   have hltI:(k:Int)<(R:Int)*K:=by rw [← Int.natCast_mul];omega
   have cf:=Bc.thawed k
   go_wp2_with fail
   refine wp_region_still_tail 14 (by kernel_rfl) (by kernel_rfl) ?_
   simp only [List.take_succ_cons,List.take_zero,List.drop_succ_cons,List.drop_zero]
   repeat (first|still_call (still0 (radd_any _ _ _))|still_step)
   refine wpStill_nil ?_
   go_wp2
   go_roundw
   case rel=>
    refine ⟨k+1,by omega,by go_num,(hfr.drew).st (fun _=>rfl) _,Bm.far (a:=⟨b,k,none⟩) (by dsimp only;omega) _,?_⟩
    have hs:=Bc.iset k (add (ix xs k) (ix ys k))
    rw [pad_set (g:=fun k=>add (ix xs k) (ix ys k)) hlt] at hs
    exact hs
   case measure=>simp [intOf];omega
  ·skip
   obtain rfl:k=R*K:=by omega
   have hbl:=Far.toBelow hw1 hfr (by omega) (by rintro k rfl;omega)
   go_wp2
   refine bodyPost_ret (v:=.agg #[.int .i64 R,.int .i64 K,.slice (some ⟨b,0,none⟩) (R*K) (R*K)]) (by simp [results,Tryz.results48,go_sem,B2c]) rfl ⟨_,rfl,MatNew.mk (fun _=>by omega) ((ints_pad Bc (by unfold maxLen;omega)).set3 (fun _=>by omega) _ _ _),(Below.y0 hbl)⟩
set_option maxRecDepth 100000 in
set_option maxHeartbeats 1000000 in
theorem refMatTimes_any (R K:Nat) (hR:R≤24) (hK:K≤12) (xs:List Int) (x:Int) (va:Value) (w:World) (ha:MatAt w va ⟨R,K,xs⟩) (hl0:xs.length=R*K) :
  Calls Tryz.prog 78 #[va,.int .i64 x] w fun e w'=>∃ v,e=.returned v∧MatNew w.heap.size w' v ⟨R,K,upto (fun k=>mul (ix xs k) x) (R*K)⟩∧Below w.heap.size w w':=by
 obtain ⟨a0,n0,k0,b0,o0,rfl,h0⟩:=ha
 dsimp only at h0
 obtain rfl:R*K=n0:=by rw [← hl0];exact h0.len
 have hrk:R*K≤288:=Nat.mul_le_mul hR hK
 go_enter Tryz.func78,Tryz.ntmps78
 go_wp2_with fail
 refine (blank_any R K (by omega) (by omega) _).mono ?_
 rintro e w1 ⟨b,rfl,hbb,hB,hb1⟩
 go_wp2
 have hw1:Below w.heap.size w w1:=(Below.x1 hb1)
 have hzb:b<w1.heap.size:=hB.lt
 have hz1:=hb1.size
 simp at hz1 hbb
 have B0:=((Box.new w [.int .i64 R,.int .i64 K,.slice a0 (R*K) k0] 41).alloc _).keep hb1
 have B0c:=B0.cell
 have B0f:=B0.thawed
 have B0z:=B0.lt
 have B0k:=lt_add B0z
 have B2:=(Box.new' _ (w.heap.size+1) [.int .i64 0,.int .i64 0,.slice none 0 0] 41 (by simp)).keep hb1
 have B2c:=B2.cell
 have B2f:=B2.thawed
 have B2z:=B2.lt
 have B2k:=lt_add B2z
 have l0:=h0.lt
 replace h0:=h0.keep hw1
 go_loopw [6] (fun i wr=>∃ k:Nat,k≤R*K∧i=.int .i64 k∧Far (·=b) w1 wr∧Box wr w1.heap.size [.int .i64 R,.int .i64 K,.slice (some ⟨b,0,none⟩) (R*K) (R*K)] 41 ∧
   Box wr b ((pad (fun k=>mul (ix xs k) x) (R*K) k).map (Value.int .i64)) 3) (fun i _=>R*K - (intOf i).toNat)
 case atStart=>exact ⟨0,Nat.zero_le _,rfl,(Far.refl _ _).al _,Box.new _ _ _,by rw [pad_zero];exact hB.alloc _⟩
 case round=>
  obtain ⟨k,hk,rfl,hfr,Bm,Bc⟩:=hrel
  have Bmc:=Bm.cell
  have Bmf:=Bm.thawed
  have Bmz:=Bm.lt
  replace B0:=B0.farS hfr (by omega)
  have B0c:=B0.cell
  have B0f:=B0.thawed
  have B0z:=B0.lt
  have B0k:=lt_add B0z
  replace B2:=B2.farS hfr (by omega)
  have B2c:=B2.cell
  have B2f:=B2.thawed
  have B2z:=B2.lt
  have B2k:=lt_add B2z
  replace h0:=h0.farS hfr (by intro hn e;have:=l0 hn;omega)
  by_cases hlt:k<R*K
  ·obtain rfl:=h0.ptr (by omega)
   have c0:=h0.cell k hlt
   have cc:=Bc.icell (k:=k) (by rw [pad_length];exact hlt)
   rw [pad_ix hlt,if_neg (Nat.lt_irrefl _)] at cc
   have hltI:(k:Int)<(R:Int)*K:=by rw [← Int.natCast_mul];omega
   have cf:=Bc.thawed k
   go_wp2_with fail
   refine wp_region_still_tail 10 (by kernel_rfl) (by kernel_rfl) ?_
   simp only [List.take_succ_cons,List.take_zero,List.drop_succ_cons,List.drop_zero]
   repeat (first|still_call (still0 (rmul_any _ _ _))|still_step)
   refine wpStill_nil ?_
   go_wp2
   go_roundw
   case rel=>
    refine ⟨k+1,by omega,by go_num,(hfr.drew).st (fun _=>rfl) _,Bm.far (a:=⟨b,k,none⟩) (by dsimp only;omega) _,?_⟩
    have hs:=Bc.iset k (mul (ix xs k) x)
    rw [pad_set (g:=fun k=>mul (ix xs k) x) hlt] at hs
    exact hs
   case measure=>simp [intOf];omega
  ·skip
   obtain rfl:k=R*K:=by omega
   have hbl:=Far.toBelow hw1 hfr (by omega) (by rintro k rfl;omega)
   go_wp2
   refine bodyPost_ret (v:=.agg #[.int .i64 R,.int .i64 K,.slice (some ⟨b,0,none⟩) (R*K) (R*K)]) (by simp [results,Tryz.results78,go_sem,B2c]) rfl ⟨_,rfl,MatNew.mk (fun _=>by omega) ((ints_pad Bc (by unfold maxLen;omega)).set3 (fun _=>by omega) _ _ _),(Below.y0 hbl)⟩
end Go.Proofs.YtchngeagnlngaaaGreatDoor
end
section
namespace Go.Proofs.YtchngeagnlngaaaGreatDoor
open Go.RowKit Gal
theorem ints_upto {w:World} {b n:Nat} {g:Nat→Int} {t:TypeId} (h:Box w b ((upto g n).map (Value.int .i64)) t) (hl:n≤maxLen):IntsAt w (some ⟨b,0,none⟩) n n b 0 (upto g n):=by
 have:=ints_box h (by rw [upto_length];exact hl)
 rw [upto_length] at this
 exact this
set_option maxRecDepth 100000 in
set_option maxHeartbeats 1000000 in
theorem refMatRows_any (R0 K L H:Nat) (hR0:R0≤24) (hK:K≤12) (hLH:L≤H) (hHR:H≤R0) (xs:List Int) (va:Value) (w:World) (ha:MatAt w va ⟨R0,K,xs⟩) (hl0:xs.length=R0*K) :
  Calls Tryz.prog 70 #[va,.int .i64 L,.int .i64 H] w fun e w'=>∃ v,e=.returned v∧MatNew w.heap.size w' v (matRows ⟨R0,K,xs⟩ L H)∧Below w.heap.size w w':=by
 rw [rows_upto hLH hHR hl0]
 obtain ⟨a0,n0,k0,b0,o0,rfl,h0⟩:=ha
 dsimp only at h0
 obtain rfl:R0*K=n0:=by rw [← hl0];exact h0.len
 have hHK:H*K≤R0*K:=Nat.mul_le_mul_right K hHR
 have hLH2:L*K+(H - L)*K=H*K:=by rw [← Nat.add_mul];congr 1;omega
 have hrk0:R0*K≤288:=Nat.mul_le_mul hR0 hK
 obtain ⟨R,hR⟩:∃ R,R=H - L:=⟨_,rfl⟩
 rw [← hR] at hLH2
 have hRI:(H:Int) - L=(R:Int):=by omega
 rw [← hR]
 have hrk:R*K≤288:=by omega
 have hR24:R≤24:=by omega
 have e1:(L:Int)*K≤288:=by rw [← Int.natCast_mul];omega
 have e2:(0:Int)≤(L:Int)*K:=by rw [← Int.natCast_mul];omega
 have HR:=Lib.hid hR
 clear hR
 have w3:IntKind.i64.wrap ((H:Int) - L)=(R:Int):=by rw [hRI];exact IntWalk.i64_in _ (by omega)
 have HRI:=Lib.hid hRI
 clear hRI
 go_enter Tryz.func70,Tryz.ntmps70
 go_wp2_with fail
 try rw [HRI.out]
 refine (blank_any R K hR24 (by omega) _).mono ?_
 clear w3
 rintro e w1 ⟨b,rfl,hbb,hB,hb1⟩
 go_wp2
 have hw1:Below w.heap.size w w1:=(Below.x1 hb1)
 have hzb:b<w1.heap.size:=hB.lt
 have hz1:=hb1.size
 simp at hz1 hbb
 have B0:=((Box.new w [.int .i64 R0,.int .i64 K,.slice a0 (R0*K) k0] 41).alloc _).keep hb1
 have B0c:=B0.cell
 have B0f:=B0.thawed
 have B0z:=B0.lt
 have B0k:=lt_add B0z
 have B2:=(Box.new' _ (w.heap.size+1) [.int .i64 0,.int .i64 0,.slice none 0 0] 41 (by simp)).keep hb1
 have B2c:=B2.cell
 have B2f:=B2.thawed
 have B2z:=B2.lt
 have B2k:=lt_add B2z
 have l0:=h0.lt
 replace h0:=h0.keep hw1
 go_loopw [8] (fun i wr=>∃ k:Nat,k≤R*K∧i=.int .i64 k∧Far (·=b) w1 wr∧Box wr w1.heap.size [.int .i64 R,.int .i64 K,.slice (some ⟨b,0,none⟩) (R*K) (R*K)] 41 ∧
   Box wr b ((pad (fun k=>ix xs (L*K+k)) (R*K) k).map (Value.int .i64)) 3) (fun i _=>R*K - (intOf i).toNat)
 case atStart=>exact ⟨0,Nat.zero_le _,rfl,(Far.refl _ _).al _,Box.new _ _ _,by rw [pad_zero];exact hB.alloc _⟩
 case round=>
  obtain ⟨k,hk,rfl,hfr,Bm,Bc⟩:=hrel
  have Bmc:=Bm.cell
  have Bmf:=Bm.thawed
  have Bmz:=Bm.lt
  replace B0:=B0.farS hfr (by omega)
  have B0c:=B0.cell
  have B0f:=B0.thawed
  have B0z:=B0.lt
  have B0k:=lt_add B0z
  replace B2:=B2.farS hfr (by omega)
  have B2c:=B2.cell
  have B2f:=B2.thawed
  have B2z:=B2.lt
  have B2k:=lt_add B2z
  replace h0:=h0.farS hfr (by intro hn e;have:=l0 hn;omega)
  by_cases hlt:k<R*K
  ·obtain rfl:=h0.ptr (by omega)
   have c0:=h0.cell (L*K+k) (by omega)
   have cc:=Bc.icell (k:=k) (by rw [pad_length];exact hlt)
   rw [pad_ix hlt,if_neg (Nat.lt_irrefl _)] at cc
   have hltI:(k:Int)<(R:Int)*K:=by rw [← Int.natCast_mul];omega
   have cf:=Bc.thawed k
   have y1:IntKind.i64.wrap ((L:Int)*K)=(L:Int)*K:=IntWalk.i64_in _ (by omega)
   have y2:IntKind.i64.wrap ((L:Int)*K+k)=(L:Int)*K+k:=IntWalk.i64_in _ (by omega)
   have y3:(L:Int)*K+k<(R0:Int)*K:=by rw [← Int.natCast_mul,← Int.natCast_mul];omega
   have y4:0≤(L:Int)*K+k:=by omega
   have y5:((L:Int)*K+k).toNat=L*K+k:=by rw [← Int.natCast_mul];omega
   go_wp2_with fail
   refine wp_region_still_tail 13 (by kernel_rfl) (by kernel_rfl) ?_
   simp only [List.take_succ_cons,List.take_zero,List.drop_succ_cons,List.drop_zero]
   repeat (first|fail|still_step)
   refine wpStill_nil ?_
   go_wp2
   go_roundw
   case rel=>
    refine ⟨k+1,by omega,by go_num,(hfr.drew).st (fun _=>rfl) _,Bm.far (a:=⟨b,k,none⟩) (by dsimp only;omega) _,?_⟩
    have hs:=Bc.iset k (ix xs (L*K+k))
    rw [pad_set (g:=fun k=>ix xs (L*K+k)) hlt] at hs
    exact hs
   case measure=>simp [intOf];omega
  ·skip
   obtain rfl:k=R*K:=by omega
   have hbl:=Far.toBelow hw1 hfr (by omega) (by rintro k rfl;omega)
   go_wp2
   refine bodyPost_ret (v:=.agg #[.int .i64 R,.int .i64 K,.slice (some ⟨b,0,none⟩) (R*K) (R*K)]) (by simp [results,Tryz.results70,go_sem,B2c]) rfl ⟨_,rfl,MatNew.mk (fun _=>by omega) ((ints_pad Bc (by unfold maxLen;omega)).set3 (fun _=>by omega) _ _ _),(Below.y0 hbl)⟩
set_option maxRecDepth 100000 in
set_option maxHeartbeats 1000000 in
theorem refMatTurn_any (R K:Nat) (hR:R≤24) (hK:K≤12) (xs:List Int) (va:Value) (w:World) (ha:MatAt w va ⟨R,K,xs⟩) (hl0:xs.length=R*K) :
  Calls Tryz.prog 94 #[va] w fun e w'=>∃ v,e=.returned v∧MatNew w.heap.size w' v (matTurn ⟨R,K,xs⟩)∧Below w.heap.size w w':=by
 obtain ⟨a0,n0,k0,b0,o0,rfl,h0⟩:=ha
 dsimp only at h0
 obtain rfl:R*K=n0:=by rw [← hl0];exact h0.len
 have hrk:R*K≤288:=Nat.mul_le_mul hR hK
 have hkr:K*R≤288:=by rw [Nat.mul_comm];exact hrk
 go_enter Tryz.func94,Tryz.ntmps94
 go_wp2_with fail
 refine (blank_any K R (by omega) (by omega) _).mono ?_
 rintro e w1 ⟨b,rfl,hbb,hB,hb1⟩
 go_wp2
 have hw1:Below w.heap.size w w1:=(Below.x1 hb1)
 have hzb:b<w1.heap.size:=hB.lt
 have hz1:=hb1.size
 simp at hz1 hbb
 have B0:=((Box.new w [.int .i64 R,.int .i64 K,.slice a0 (R*K) k0] 41).alloc _).keep hb1
 have B0c:=B0.cell
 have B0f:=B0.thawed
 have B0z:=B0.lt
 have B0k:=lt_add B0z
 have B2:=(Box.new' _ (w.heap.size+1) [.int .i64 0,.int .i64 0,.slice none 0 0] 41 (by simp)).keep hb1
 have B2c:=B2.cell
 have B2f:=B2.thawed
 have B2z:=B2.lt
 have B2k:=lt_add B2z
 have l0:=h0.lt
 replace h0:=h0.keep hw1
 go_loopw [4] (fun i wr=>∃ k:Nat,k≤R∧i=.int .i64 k∧Far (·=b) w1 wr∧Box wr w1.heap.size [.int .i64 K,.int .i64 R,.slice (some ⟨b,0,none⟩) (K*R) (K*R)] 41 ∧
   Box wr b ((upto (turnS xs R K k 0) (K*R)).map (Value.int .i64)) 3) (fun i _=>R - (intOf i).toNat)
 case atStart=>exact ⟨0,Nat.zero_le _,rfl,(Far.refl _ _).al _,Box.new _ _ _,by rw [turnS_zero];exact hB.alloc _⟩
 case round=>
  obtain ⟨k,hk,rfl,hfr,Bm,Bc⟩:=hrel
  have Bmc:=Bm.cell
  have Bmf:=Bm.thawed
  have Bmz:=Bm.lt
  have B0':=B0.farS hfr (by omega)
  have B0c':=B0'.cell
  by_cases hlt:k<R
  ·go_wp2
   obtain ⟨wo,hwo⟩:∃ wo:World,wo=wr:=⟨_,rfl⟩
   clear Bmc Bmf Bmz B0' B0c'
   go_loopw [5] (fun j wr=>∃ l:Nat,l≤K∧j=.int .i64 l∧Far (·=b) w1 wr∧Box wr w1.heap.size [.int .i64 K,.int .i64 R,.slice (some ⟨b,0,none⟩) (K*R) (K*R)] 41 ∧
     Box wr b ((upto (turnS xs R K k l) (K*R)).map (Value.int .i64)) 3) (fun j _=>K - (intOf j).toNat)
   case atStart=>exact ⟨0,Nat.zero_le _,rfl,hfr,Bm,Bc⟩
   case round=>
    obtain ⟨l,hl,rfl,hfr,Bm,Bc⟩:=hrel
    have Bmc:=Bm.cell
    have Bmf:=Bm.thawed
    have Bmz:=Bm.lt
    replace B0:=B0.farS hfr (by omega)
    have B0c:=B0.cell
    have B0f:=B0.thawed
    have B0z:=B0.lt
    have B0k:=lt_add B0z
    replace B2:=B2.farS hfr (by omega)
    have B2c:=B2.cell
    have B2f:=B2.thawed
    have B2z:=B2.lt
    have B2k:=lt_add B2z
    replace h0:=h0.farS hfr (by intro hn e;have:=l0 hn;omega)
    by_cases hlt2:l<K
    ·have hkl:=cell_lt hlt hlt2
     have hlk:=cell_lt hlt2 hlt
     obtain rfl:=h0.ptr (by omega)
     have c0:=h0.cell _ hkl
     have cc:=Bc.icell (k:=l*R+k) (by rw [upto_length];exact hlk)
     have cf:=Bc.thawed (l*R+k)
     have e1:(k:Int)*K≤288:=by rw [← Int.natCast_mul];have:=Nat.mul_le_mul (show k≤24 by omega) hK;omega
     have e2:(0:Int)≤(k:Int)*K:=by rw [← Int.natCast_mul];omega
     have e3:(l:Int)*R≤288:=by rw [← Int.natCast_mul];have:=Nat.mul_le_mul (show l≤12 by omega) hR;omega
     have e4:(0:Int)≤(l:Int)*R:=by rw [← Int.natCast_mul];omega
     have y1:IntKind.i64.wrap ((k:Int)*K)=(k:Int)*K:=IntWalk.i64_in _ (by omega)
     have y2:IntKind.i64.wrap ((k:Int)*K+l)=(k:Int)*K+l:=IntWalk.i64_in _ (by omega)
     have y3:IntKind.i64.wrap ((l:Int)*R)=(l:Int)*R:=IntWalk.i64_in _ (by omega)
     have y4:IntKind.i64.wrap ((l:Int)*R+k)=(l:Int)*R+k:=IntWalk.i64_in _ (by omega)
     have z1:(k:Int)*K+l<(R:Int)*K:=by rw [← Int.natCast_mul,← Int.natCast_mul];omega
     have z2:0≤(k:Int)*K+l:=by omega
     have z3:((k:Int)*K+l).toNat=k*K+l:=by rw [← Int.natCast_mul];omega
     have z4:(l:Int)*R+k<(K:Int)*R:=by rw [← Int.natCast_mul,← Int.natCast_mul];omega
     have z5:0≤(l:Int)*R+k:=by omega
     have z6:((l:Int)*R+k).toNat=l*R+k:=by rw [← Int.natCast_mul];omega
     go_wp2_with fail
     refine wp_region_still_tail 18 (by kernel_rfl) (by kernel_rfl) ?_
     simp only [List.take_succ_cons,List.take_zero,List.drop_succ_cons,List.drop_zero]
     repeat (first|fail|still_step)
     refine wpStill_nil ?_
     go_wp2
     go_roundw
     case rel=>
      refine ⟨l+1,by omega,by go_num,(hfr.drew).st (fun _=>rfl) _,Bm.far (a:=⟨b,l*R+k,none⟩) (by dsimp only;omega) _,?_⟩
      have hs:=Bc.iset (l*R+k) (ix xs (k*K+l))
      rw [turnS_cell hlt hlt2] at hs
      exact hs
     case measure=>simp [intOf];omega
    ·obtain rfl:l=K:=by omega
     go_wp2
     go_roundw
     case rel=>exact ⟨k+1,by omega,by go_num,hfr,Bm,by rw [← turnS_row (by omega)];exact Bc⟩
     case measure=>simp [intOf];omega
  ·obtain rfl:k=R:=by omega
   replace B2:=B2.farS hfr (by omega)
   have B2c:=B2.cell
   have B2f:=B2.thawed
   have B2z:=B2.lt
   have B2k:=lt_add B2z
   have hbl:=Far.toBelow hw1 hfr (by omega) (by rintro k rfl;omega)
   go_wp2
   refine bodyPost_ret (v:=.agg #[.int .i64 K,.int .i64 k,.slice (some ⟨b,0,none⟩) (K*k) (K*k)]) (by simp [results,Tryz.results94,go_sem,B2c]) rfl ⟨_,rfl,?_,(Below.y0 hbl)⟩
   rw [← turnS_all]
   exact MatNew.mk (fun _=>by omega) ((ints_upto Bc (by unfold maxLen;omega)).set3 (fun _=>by omega) _ _ _)
set_option maxRecDepth 100000 in
set_option maxHeartbeats 1000000 in
theorem refMatSums_any (R K:Nat) (hR:R≤24) (hK:K≤12) (xs:List Int) (va:Value) (w:World) (ha:MatAt w va ⟨R,K,xs⟩) (hl0:xs.length=R*K) :
  Calls Tryz.prog 95 #[va] w fun e w'=>∃ v,e=.returned v∧MatNew w.heap.size w' v (matSums ⟨R,K,xs⟩)∧Below w.heap.size w w':=by
 obtain ⟨a0,n0,k0,b0,o0,rfl,h0⟩:=ha
 dsimp only at h0
 obtain rfl:R*K=n0:=by rw [← hl0];exact h0.len
 have hrk:R*K≤288:=Nat.mul_le_mul hR hK
 go_enter Tryz.func95,Tryz.ntmps95
 go_wp2_with fail
 refine (blank_any 1 K (by omega) (by omega) _).mono ?_
 rintro e w1 ⟨b,rfl,hbb,hB,hb1⟩
 go_wp2
 have hw1:Below w.heap.size w w1:=(Below.x1 hb1)
 have hzb:b<w1.heap.size:=hB.lt
 have hz1:=hb1.size
 simp at hz1 hbb
 have B0:=((Box.new w [.int .i64 R,.int .i64 K,.slice a0 (R*K) k0] 41).alloc _).keep hb1
 have B0c:=B0.cell
 have B0f:=B0.thawed
 have B0z:=B0.lt
 have B0k:=lt_add B0z
 have B2:=(Box.new' _ (w.heap.size+1) [.int .i64 0,.int .i64 0,.slice none 0 0] 41 (by simp)).keep hb1
 have B2c:=B2.cell
 have B2f:=B2.thawed
 have B2z:=B2.lt
 have B2k:=lt_add B2z
 have l0:=h0.lt
 replace h0:=h0.keep hw1
 rw [Nat.one_mul] at hB
 go_loopw [4,5] (fun i _ wr=>∃ q c:Nat,q*K+c≤R*K∧(c<K∨c=0)∧i=.int .i64 (q*K+c:Nat)∧Far (·=b) w1 wr∧Box wr w1.heap.size [.int .i64 1,.int .i64 K,.slice (some ⟨b,0,none⟩) K K] 41 ∧
   Box wr b ((upto (sumS xs K q c) K).map (Value.int .i64)) 3) (fun i _ _=>R*K - (intOf i).toNat)
 case atStart=>exact ⟨0,0,by omega,Or.inr rfl,by simp,(Far.refl _ _).al _,Box.new _ _ _,by rw [sumS_zero];exact hB.alloc _⟩
 case round=>
  obtain ⟨q,c,hk,hcK,rfl,hfr,Bm,Bc⟩:=hrel
  have Bmc:=Bm.cell
  have Bmf:=Bm.thawed
  have Bmz:=Bm.lt
  replace B0:=B0.farS hfr (by omega)
  have B0c:=B0.cell
  have B0f:=B0.thawed
  have B0z:=B0.lt
  have B0k:=lt_add B0z
  replace B2:=B2.farS hfr (by omega)
  have B2c:=B2.cell
  have B2f:=B2.thawed
  have B2z:=B2.lt
  have B2k:=lt_add B2z
  replace h0:=h0.farS hfr (by intro hn e;have:=l0 hn;omega)
  by_cases hlt:q*K+c<R*K
  ·have hK0:0<K:=by
    rcases Nat.eq_zero_or_pos K with h|h
    ·rw [h,Nat.mul_zero] at hlt;omega
    ·exact h
   have hc:c<K:=by omega
   have hqR:q<R:=by
    rcases Nat.lt_or_ge q R with h|h
    ·exact h
    ·have:=Nat.mul_le_mul_right K h;omega
   have hmod:=place_mod (i:=q) hc
   obtain ⟨k,hkk⟩:∃ k,q*K+c=k:=⟨_,rfl⟩
   have HKK:=Lib.hid hkk
   rw [hkk] at hlt hmod ⊢
   clear hkk
   obtain rfl:=h0.ptr (by omega)
   have c0:=h0.cell k hlt
   have cc:=Bc.icell (k:=c) (by rw [upto_length];exact hc)
   rw [upto_ix hc,sumS_at] at cc
   have cf:=Bc.thawed c
   have hltI:(k:Int)<(R:Int)*K:=by rw [← Int.natCast_mul];omega
   have hmI:(k:Int) % (K:Int)=(c:Int):=by rw [← Int.natCast_emod,hmod]
   have hmT:(k:Int).tmod (K:Int)=(c:Int):=by rw [Int.tmod_eq_emod_of_nonneg (by omega)];exact hmI
   have hcI:(c:Int)<(K:Int):=by omega
   have hKz:((K:Int) == 0)=false:=by simp;omega
   have HM:=Lib.hid hmod
   clear hmod
   go_wp2_with fail
   refine wp_region_still_tail 14 (by kernel_rfl) (by kernel_rfl) ?_
   simp only [List.take_succ_cons,List.take_zero,List.drop_succ_cons,List.drop_zero]
   repeat (first|still_call (still0 (radd_any _ _ _))|still_step)
   refine wpStill_nil ?_
   go_wp2
   go_roundw
   case rel=>
    have hs:=Bc.iset c (add (sumTo (fun i=>ix xs (i*K+c)) q) (ix xs k))
    rw [← HKK.out,sumS_cell hc] at hs
    by_cases hcc:c+1<K
    ·exact ⟨q,c+1,by have:=HKK.out;omega,Or.inl hcc,by rw [← HKK.out];go_num,(hfr.drew).st (fun _=>rfl) _,Bm.far (a:=⟨b,c,none⟩) (by dsimp only;omega) _,by rw [← HKK.out];exact hs⟩
    ·obtain rfl:c+1=K:=by omega
     refine ⟨q+1,0,by have:=HKK.out;rw [Nat.succ_mul];omega,Or.inr rfl,?_,(hfr.drew).st (fun _=>rfl) _,Bm.far (a:=⟨b,c,none⟩) (by dsimp only;omega) _,?_⟩
     ·rw [← HKK.out,Nat.succ_mul];go_num
     ·rw [← sumS_next,← HKK.out];exact hs
   case measure=>simp [intOf];omega
  ·have hbl:=Far.toBelow hw1 hfr (by omega) (by rintro k rfl;omega)
   have hend:upto (sumS xs K q c) K=upto (sumS xs K R 0) K:=by
    rcases Nat.eq_zero_or_pos K with h|h
    ·subst h;rfl
    ·have hq:q=R∧c=0:=by
      have e:q*K+c=R*K:=by omega
      have h1:=place_div (i:=q) (j:=c) (C:=K) (by omega)
      have h2:=place_mod (i:=q) (j:=c) (C:=K) (by omega)
      rw [e] at h1 h2
      rw [Nat.mul_mod_left] at h2
      rw [Nat.mul_div_cancel _ h] at h1
      exact ⟨h1.symm,h2.symm⟩
     rw [hq.1,hq.2]
   have HE:=Lib.hid hend
   clear hend
   have hgeI:¬ ((q*K+c:Nat):Int)<(R:Int)*K:=by rw [← Int.natCast_mul];omega
   go_wp2
   refine bodyPost_ret (v:=.agg #[.int .i64 1,.int .i64 K,.slice (some ⟨b,0,none⟩) K K]) (by simp [results,Tryz.results95,go_sem,B2c]) rfl ⟨_,rfl,?_,(Below.y0 hbl)⟩
   rw [← sumS_all,Nat.one_mul]
   rw [HE.out] at Bc
   exact MatNew.mk (fun _=>by omega) ((ints_upto Bc (by unfold maxLen;omega)).set3 (fun _=>by omega) _ _ _)
end Go.Proofs.YtchngeagnlngaaaGreatDoor
end
