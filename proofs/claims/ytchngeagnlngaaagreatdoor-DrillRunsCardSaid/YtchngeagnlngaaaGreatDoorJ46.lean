/- Texts joined: RLay3. -/
import Derived.Test.YtchngeagnlngaaaGreatDoorJ21
import Derived.Test.YtchngeagnlngaaaGreatDoorJ17
import Derived.Test.YtchngeagnlngaaaGreatDoorJ15
import Derived.Test.YtchngeagnlngaaaGreatDoorJ05
set_option linter.unusedVariables false
set_option linter.unusedSimpArgs false
set_option linter.unusedSectionVars false
section
namespace Go.Proofs.YtchngeagnlngaaaGreatDoor
open Go.RowKit Gal
set_option maxRecDepth 100000
set_option maxHeartbeats 4000000
theorem refGoOf_2 (W B x:Mat)
  (a a' a2:Option Addr) (n n' n2 k k' k2 b b' b2 o o' o2:Nat) (w:World) (x0:IntsAt w a n k b o W.cells) (x1:IntsAt w a' n' k' b' o' B.cells) (x2:IntsAt w a2 n2 k2 b2 o2 x.cells)
  (hg:Goes ⟨2,W,B⟩ x) :
  Calls Tryz.prog 73 #[.agg #[.int .i64 2,.int .i64 W.rows,.int .i64 W.cols,.slice a n k,.int .i64 B.rows,.int .i64 B.cols,.slice a' n' k'],.agg #[.int .i64 x.rows,.int .i64 x.cols,.slice a2 n2 k2]] w fun e w'=>∃ v,e=.returned v∧MatNew w.heap.size w' v (Lay.go ⟨2,W,B⟩ x)∧Below w.heap.size w w'
 := by
 obtain ⟨_,_,fw,fb,ft⟩:=Lay.fault_ok hg.lay
 obtain ⟨R,K,xs,rfl,hR,hK,hla,_⟩:=fault_form' hg.mat
 dsimp only at x2
 obtain rfl:R*K=n2:=by rw [← hla];exact x2.len
 have hrk:R*K≤288:=Nat.mul_le_mul hR hK
 have hgo:Lay.go ⟨2,W,B⟩ ⟨R,K,xs⟩=⟨R,K,upto (fun t=>max (ix xs t) 0) (R*K)⟩:=by simp [Lay.go,hla]
 rw [hgo]
 clear hgo fw fb ft hg hla
 go_enter Tryz.func73,Tryz.ntmps73
 go_wp2_with fail
 refine (blank_any R K (by omega) (by omega) _).mono ?_
 rintro e w1 ⟨bd,rfl,hbb,hB,hb1⟩
 have B2:=((show Box _ w.heap.size [.int .i64 2,.int .i64 W.rows,.int .i64 W.cols,.slice a n k,.int .i64 B.rows,.int .i64 B.cols,.slice a' n' k'] 84 from Box.x0)).keep hb1
 have B2c:=B2.cell
 have B2f:=B2.thawed
 have B2z:=B2.lt
 have B2k:=lt_add B2z
 have B3:=((show Box _ (w.heap.size+1) [.int .i64 R,.int .i64 K,.slice a2 (R*K) k2] 41 from Box.x0)).keep hb1
 have B3c:=B3.cell
 have B3f:=B3.thawed
 have B3z:=B3.lt
 have B3k:=lt_add B3z
 have B4:=((show Box _ (w.heap.size+1+1) [.int .i64 0,.int .i64 0,.slice none 0 0] 41 from Box.x0)).keep hb1
 have B4c:=B4.cell
 have B4f:=B4.thawed
 have B4z:=B4.lt
 have B4k:=lt_add B4z
 have B5:=((show Box _ (w.heap.size+1+1+1) [.int .i64 R,.int .i64 K,.slice a2 (R*K) k2] 41 from Box.x0)).keep hb1
 have B5c:=B5.cell
 have B5f:=B5.thawed
 have B5z:=B5.lt
 have B5k:=lt_add B5z
 have hwl:Below w.heap.size w w1:=(Below.x1 hb1)
 have hzb:bd<w1.heap.size:=hB.lt
 have hz1:=hb1.size
 simp at hz1 hbb
 have l2:0<R*K→b2<bd:=fun h=>by have:=x2.lt h;omega
 have hkw1:Below w.heap.size w w1:=(Below.x1 hb1)
 replace x2:=x2.keep hkw1
 have hsw1:=hkw1.size
 go_wp2
 go_loopw [7] (fun i wr=>∃ t:Nat,t≤R*K∧i=.int .i64 t∧Far (·=bd) w1 wr∧Box wr (w1).heap.size [.int .i64 R,.int .i64 K,.slice (some ⟨bd,0,none⟩) (R*K) (R*K)] 41 ∧
   Box wr bd ((pad (fun t=>max (ix xs t) 0) (R*K) t).map (Value.int .i64)) 3) (fun i _=>R*K - (intOf i).toNat)
 case atStart=>exact ⟨0,Nat.zero_le _,rfl,(Far.refl _ _).al _,Box.new _ _ _,by rw [pad_zero];exact hB.alloc _⟩
 case round=>
  obtain ⟨t,hk,rfl,hfr,Bm,Bc⟩:=hrel
  have Bmc:=Bm.cell
  have Bmf:=Bm.thawed
  have Bmz:=Bm.lt
  replace B2:=B2.farS hfr (by omega)
  have B2c:=B2.cell
  have B2f:=B2.thawed
  have B2z:=B2.lt
  have B2k:=lt_add B2z
  replace B5:=B5.farS hfr (by omega)
  have B5c:=B5.cell
  have B5f:=B5.thawed
  have B5z:=B5.lt
  have B5k:=lt_add B5z
  replace B4:=B4.farS hfr (by omega)
  have B4c:=B4.cell
  have B4f:=B4.thawed
  have B4z:=B4.lt
  have B4k:=lt_add B4z
  replace x2:=x2.farS hfr (by intro hn e;have:=l2 hn;omega)
  by_cases hlt:t<R*K
  ·obtain rfl:=x2.ptr (by omega)
   have c0:=x2.cell t hlt
   have cc:=Bc.icell (k:=t) (by rw [pad_length];exact hlt)
   rw [pad_ix hlt,if_neg (Nat.lt_irrefl _)] at cc
   have hltI:(t:Int)<(R:Int)*K:=by rw [← Int.natCast_mul];omega
   have cf:=Bc.thawed t
   by_cases hneg:ix xs t<0
   ·have hmx:=Lib.hid (show max (ix xs t) 0=0 by omega)
    go_wp2
    go_roundw
    case rel=>
     refine ⟨t+1,by omega,by go_num,hfr.st (fun _=>rfl) _,Bm.k,?_⟩
     have hs:=Bc.iset t (max (ix xs t) 0)
     rw [pad_set (g:=fun t=>max (ix xs t) 0) hlt,hmx.out] at hs
     exact hs
    case measure=>simp [intOf];omega
   ·have hmx:=Lib.hid (show max (ix xs t) 0=ix xs t by omega)
    go_wp2
    go_roundw
    case rel=>
     refine ⟨t+1,by omega,by go_num,hfr.st (fun _=>rfl) _,Bm.k,?_⟩
     have hs:=Bc.iset t (max (ix xs t) 0)
     rw [pad_set (g:=fun t=>max (ix xs t) 0) hlt,hmx.out] at hs
     exact hs
    case measure=>simp [intOf];omega
  ·skip
   obtain rfl:t=R*K:=by omega
   have hbl:=Far.toBelow hwl hfr (by omega) (by rintro t rfl;omega)
   go_wp2
   refine bodyPost_ret (v:=.agg #[.int .i64 R,.int .i64 K,.slice (some ⟨bd,0,none⟩) (R*K) (R*K)]) (by simp [results,Tryz.results73,go_sem,B4c]) rfl ⟨_,rfl,MatNew.mk (fun _=>by omega) ((ints_pad Bc (by unfold maxLen;omega)).set3 (fun _=>by omega) _ _ _),(Below.y0 hbl)⟩
theorem refGoOf_4 (W B x:Mat)
  (a a' a2:Option Addr) (n n' n2 k k' k2 b b' b2 o o' o2:Nat) (w:World) (x0:IntsAt w a n k b o W.cells) (x1:IntsAt w a' n' k' b' o' B.cells) (x2:IntsAt w a2 n2 k2 b2 o2 x.cells)
  (hg:Goes ⟨4,W,B⟩ x) :
  Calls Tryz.prog 73 #[.agg #[.int .i64 4,.int .i64 W.rows,.int .i64 W.cols,.slice a n k,.int .i64 B.rows,.int .i64 B.cols,.slice a' n' k'],.agg #[.int .i64 x.rows,.int .i64 x.cols,.slice a2 n2 k2]] w fun e w'=>∃ v,e=.returned v∧MatNew w.heap.size w' v (Lay.go ⟨4,W,B⟩ x)∧Below w.heap.size w w'
 := by
 have htk:=hg.takes.2 rfl
 obtain ⟨_,_,fw,fb,ft⟩:=Lay.fault_ok hg.lay
 obtain ⟨R,K,xs,rfl,hR,hK,hla,_⟩:=fault_form' hg.mat
 dsimp only at x2
 obtain rfl:R*K=n2:=by rw [← hla];exact x2.len
 have hrk:R*K≤288:=Nat.mul_le_mul hR hK
 have hgo:Lay.go ⟨4,W,B⟩ ⟨R,K,xs⟩=⟨R,K,upto (fun t=>add (ix xs t) (ix B.cells (t % K))) (R*K)⟩:=by simp [Lay.go,moreCells,hla]
 have hnb:K≤n':=by
  obtain ⟨R',K',e1,e2,_,_,h3,_⟩:=matFault_ok fb
  unfold Lay.fits at ft
  dsimp only at ft e1 e2 h3 htk
  have h4:B.rows=1:=by omega
  obtain rfl:R'=1:=by omega
  rw [← x1.len,h3]
  omega
 rw [hgo]
 clear hgo fw fb ft hg hla htk
 go_enter Tryz.func73,Tryz.ntmps73
 go_wp2_with fail
 refine (blank_any R K (by omega) (by omega) _).mono ?_
 rintro e w1 ⟨bd,rfl,hbb,hB,hb1⟩
 have B2:=((show Box _ w.heap.size [.int .i64 4,.int .i64 W.rows,.int .i64 W.cols,.slice a n k,.int .i64 B.rows,.int .i64 B.cols,.slice a' n' k'] 84 from Box.x0)).keep hb1
 have B2c:=B2.cell
 have B2f:=B2.thawed
 have B2z:=B2.lt
 have B2k:=lt_add B2z
 have B3:=((show Box _ (w.heap.size+1) [.int .i64 R,.int .i64 K,.slice a2 (R*K) k2] 41 from Box.x0)).keep hb1
 have B3c:=B3.cell
 have B3f:=B3.thawed
 have B3z:=B3.lt
 have B3k:=lt_add B3z
 have B4:=((show Box _ (w.heap.size+1+1) [.int .i64 0,.int .i64 0,.slice none 0 0] 41 from Box.x0)).keep hb1
 have B4c:=B4.cell
 have B4f:=B4.thawed
 have B4z:=B4.lt
 have B4k:=lt_add B4z
 have B5:=((show Box _ (w.heap.size+1+1+1) [.int .i64 R,.int .i64 K,.slice a2 (R*K) k2] 41 from Box.x0)).keep hb1
 have B5c:=B5.cell
 have B5f:=B5.thawed
 have B5z:=B5.lt
 have B5k:=lt_add B5z
 have hwl:Below w.heap.size w w1:=(Below.x1 hb1)
 have hzb:bd<w1.heap.size:=hB.lt
 have hz1:=hb1.size
 simp at hz1 hbb
 have l2:0<R*K→b2<bd:=fun h=>by have:=x2.lt h;omega
 have l1:0<n'→b'<bd:=fun h=>by have:=x1.lt h;omega
 have hkw1:Below w.heap.size w w1:=(Below.x1 hb1)
 replace x2:=x2.keep hkw1
 replace x1:=x1.keep hkw1
 have hsw1:=hkw1.size
 go_wp2
 go_loopw [7] (fun i wr=>∃ t:Nat,t≤R*K∧i=.int .i64 t∧Far (·=bd) w1 wr∧Box wr (w1).heap.size [.int .i64 R,.int .i64 K,.slice (some ⟨bd,0,none⟩) (R*K) (R*K)] 41 ∧
   Box wr bd ((pad (fun t=>add (ix xs t) (ix B.cells (t % K))) (R*K) t).map (Value.int .i64)) 3) (fun i _=>R*K - (intOf i).toNat)
 case atStart=>exact ⟨0,Nat.zero_le _,rfl,(Far.refl _ _).al _,Box.new _ _ _,by rw [pad_zero];exact hB.alloc _⟩
 case round=>
  obtain ⟨t,hk,rfl,hfr,Bm,Bc⟩:=hrel
  have Bmc:=Bm.cell
  have Bmf:=Bm.thawed
  have Bmz:=Bm.lt
  replace B2:=B2.farS hfr (by omega)
  have B2c:=B2.cell
  have B2f:=B2.thawed
  have B2z:=B2.lt
  have B2k:=lt_add B2z
  replace B5:=B5.farS hfr (by omega)
  have B5c:=B5.cell
  have B5f:=B5.thawed
  have B5z:=B5.lt
  have B5k:=lt_add B5z
  replace B4:=B4.farS hfr (by omega)
  have B4c:=B4.cell
  have B4f:=B4.thawed
  have B4z:=B4.lt
  have B4k:=lt_add B4z
  replace x2:=x2.farS hfr (by intro hn e;have:=l2 hn;omega)
  replace x1:=x1.farS hfr (by intro hn e;have:=l1 hn;omega)
  by_cases hlt:t<R*K
  ·have hKp:0<K:=by
    rcases Nat.eq_zero_or_pos K with h0|h0
    ·rw [h0,Nat.mul_zero] at hlt;omega
    ·exact h0
   have hm:=Nat.mod_lt t hKp
   obtain rfl:=x2.ptr (by omega)
   obtain rfl:=x1.ptr (by omega)
   have c0:=x2.cell t hlt
   have c1:=x1.cell (t % K) (by omega)
   have cc:=Bc.icell (k:=t) (by rw [pad_length];exact hlt)
   rw [pad_ix hlt,if_neg (Nat.lt_irrefl _)] at cc
   have hltI:(t:Int)<(R:Int)*K:=by rw [← Int.natCast_mul];omega
   have cf:=Bc.thawed t
   obtain ⟨j,hj⟩:∃ j,t % K=j:=⟨_,rfl⟩
   have HJ:=Lib.hid hj
   rw [hj] at c1 hm
   have hmI:(t:Int) % (K:Int)=(j:Int):=by rw [← Int.natCast_emod,hj]
   have hmT:(t:Int).tmod (K:Int)=(j:Int):=by rw [Int.tmod_eq_emod_of_nonneg (by omega)];exact hmI
   have hKz:((K:Int) == 0)=false:=by simp;omega
   have hjn:j<n':=by omega
   clear hj
   go_wp2_with fail
   go_quiet ((go_at_call 21;first|exact quiet0 (radd_any _ _)|exact quiet1 (radd_any _ _)))
   go_wp2
   go_roundw
   case rel=>
    refine ⟨t+1,by omega,by go_num,(hfr.drN _).st (fun _=>rfl) _,Bm.k,?_⟩
    have hs:=Bc.iset t (add (ix xs t) (ix B.cells (t % K)))
    rw [pad_set (g:=fun t=>add (ix xs t) (ix B.cells (t % K))) hlt,HJ.out] at hs
    exact hs
   case measure=>simp [intOf];omega
  ·skip
   obtain rfl:t=R*K:=by omega
   have hbl:=Far.toBelow hwl hfr (by omega) (by rintro t rfl;omega)
   go_wp2
   refine bodyPost_ret (v:=.agg #[.int .i64 R,.int .i64 K,.slice (some ⟨bd,0,none⟩) (R*K) (R*K)]) (by simp [results,Tryz.results73,go_sem,B4c]) rfl ⟨_,rfl,MatNew.mk (fun _=>by omega) ((ints_pad Bc (by unfold maxLen;omega)).set3 (fun _=>by omega) _ _ _),(Below.y0 hbl)⟩
theorem refGoOf_1 (W B x:Mat)
  (a a' a2:Option Addr) (n n' n2 k k' k2 b b' b2 o o' o2:Nat) (w:World) (x0:IntsAt w a n k b o W.cells) (x1:IntsAt w a' n' k' b' o' B.cells) (x2:IntsAt w a2 n2 k2 b2 o2 x.cells)
  (hg:Goes ⟨1,W,B⟩ x) :
  Calls Tryz.prog 73 #[.agg #[.int .i64 1,.int .i64 W.rows,.int .i64 W.cols,.slice a n k,.int .i64 B.rows,.int .i64 B.cols,.slice a' n' k'],.agg #[.int .i64 x.rows,.int .i64 x.cols,.slice a2 n2 k2]] w fun e w'=>∃ v,e=.returned v∧MatNew w.heap.size w' v (Lay.go ⟨1,W,B⟩ x)∧Below w.heap.size w w'
 := by
 have htk:=hg.takes.1 rfl
 have hm0:mulFault x W=0:=by obtain ⟨_,_,fw,_,_⟩:=Lay.fault_ok hg.lay;exact mulFault_zero hg.mat fw htk
 obtain ⟨_,_,fw,fb,ft⟩:=Lay.fault_ok hg.lay
 obtain ⟨R,K,xs,rfl,hR,hK,hla,_⟩:=fault_form' hg.mat
 dsimp only at x2
 obtain rfl:R*K=n2:=by rw [← hla];exact x2.len
 have hrk:R*K≤288:=Nat.mul_le_mul hR hK
 obtain ⟨K',C,e3,e4,hK',hC,hlw,_⟩:=matFault_ok fw
 dsimp only at e3 e4 hlw htk
 obtain ⟨ys,hys⟩:∃ ys,(matMul ⟨R,K,xs⟩ W).cells=ys:=⟨_,rfl⟩
 have hyl:ys.length=R*C:=by
  rw [← hys]
  unfold matMul
  dsimp only
  rw [grid_length,e4]
  simp only [Int.toNat_natCast]
 have hmm:matMul ⟨R,K,xs⟩ W=⟨R,C,ys⟩:=by
  rw [← hys]
  show (⟨_,_,_⟩:Mat)=⟨_,_,_⟩
  rw [← e4]
  rfl
 have hrc:R*C≤288:=Nat.mul_le_mul hR hC
 have hgo:Lay.go ⟨1,W,B⟩ ⟨R,K,xs⟩=⟨R,C,upto (fun t=>add (ix ys t) (ix B.cells (t % C))) (R*C)⟩:=by
  unfold Lay.go
  rw [if_pos rfl]
  dsimp only
  rw [hmm,e4]
  simp only [Int.toNat_natCast,moreCells,hyl]
 have hnb:C≤n':=by
  obtain ⟨R',K'',e1,e2,_,_,h3,_⟩:=matFault_ok fb
  unfold Lay.fits at ft
  dsimp only at ft e1 e2 h3
  have h4:B.rows=1∧B.cols=W.cols:=by omega
  obtain rfl:R'=1:=by omega
  rw [← x1.len,h3]
  omega
 have HM:=Lib.hid hm0
 have HY:=Lib.hid hmm
 have HYL:=Lib.hid hyl
 rw [hgo]
 clear hgo fw fb ft hg hla htk hys hyl hmm e3 e4 hlw hm0
 go_enter Tryz.func73,Tryz.ntmps73
 go_wp2_with fail
 refine (refMatMul_all ⟨R,K,xs⟩ W _ _ _ (MatAt.mk (x2.alloc _ |>.alloc _ |>.alloc _ |>.alloc _)) (MatAt.mk (x0.alloc _ |>.alloc _ |>.alloc _ |>.alloc _)) HM.out).mono ?_
 rw [HY.out]
 rintro e w1 ⟨v5,rfl,⟨a5,n5,k5,b5,o5,rfl,hn5,x5⟩,hb1⟩
 have B2:=((show Box _ w.heap.size [.int .i64 1,.int .i64 W.rows,.int .i64 W.cols,.slice a n k,.int .i64 B.rows,.int .i64 B.cols,.slice a' n' k'] 84 from Box.x0)).keep hb1
 have B2c:=B2.cell
 have B2f:=B2.thawed
 have B2z:=B2.lt
 have B2k:=lt_add B2z
 have B3:=((show Box _ (w.heap.size+1) [.int .i64 R,.int .i64 K,.slice a2 (R*K) k2] 41 from Box.x0)).keep hb1
 have B3c:=B3.cell
 have B3f:=B3.thawed
 have B3z:=B3.lt
 have B3k:=lt_add B3z
 have B4:=((show Box _ (w.heap.size+1+1) [.int .i64 0,.int .i64 0,.slice none 0 0] 41 from Box.x0)).keep hb1
 have B4c:=B4.cell
 have B4f:=B4.thawed
 have B4z:=B4.lt
 have B4k:=lt_add B4z
 have B5:=((show Box _ (w.heap.size+1+1+1) [.int .i64 R,.int .i64 K,.slice a2 (R*K) k2] 41 from Box.x0)).keep hb1
 have B5c:=B5.cell
 have B5f:=B5.thawed
 have B5z:=B5.lt
 have B5k:=lt_add B5z
 have hnl:R*C=n5:=by rw [← x5.len];exact HYL.out.symm
 subst hnl
 have l1:0<n'→b'<w.heap.size:=x1.lt
 have l5:0<R*C→w.heap.size+1+1+1<b5:=fun h=>by have:=hn5 h;simp at this;omega
 have l5':=x5.lt
 have hkw1:Below w.heap.size w w1:=(Below.x1 hb1)
 replace x1:=x1.keep hkw1
 have hsw1:=hkw1.size
 go_wp2_with fail
 refine (blank_any R C (by omega) (by omega) _).mono ?_
 rintro e w2 ⟨bd,rfl,hbb,hB,hb2⟩
 have hz1:=hb2.size
 simp at hz1 hbb
 have y5:=(((B5.set 0 (.int .i64 R)).set 1 (.int .i64 C)).set 2 (.slice a5 (R*C) k5)).keep hb2
 replace B5:Box w2 (w.heap.size+1+1+1) [.int .i64 R,.int .i64 C,.slice a5 (R*C) k5] 41:=y5
 have B5c:=B5.cell
 have B5f:=B5.thawed
 have B5z:=B5.lt
 replace B2:Box w2 w.heap.size [.int .i64 1,.int .i64 W.rows,.int .i64 W.cols,.slice a n k,.int .i64 B.rows,.int .i64 B.cols,.slice a' n' k'] 84:=Box.keep B2.k hb2
 have B2c:=B2.cell
 have B2f:=B2.thawed
 have B2z:=B2.lt
 replace B4:Box w2 (w.heap.size+1+1) [.int .i64 0,.int .i64 0,.slice none 0 0] 41:=Box.keep B4.k hb2
 have B4c:=B4.cell
 have B4f:=B4.thawed
 have B4z:=B4.lt
 clear y5
 replace x1:IntsAt w2 a' n' k' b' o' B.cells:=IntsAt.keep (by repeat (first|(with_reducible first|exact x1|refine IntsAt.alloc ?_ _|refine IntsAt.drewN ?_ _|refine IntsAt.drew ?_|(refine IntsAt.set ?_ ?_ _;rotate_left 1;(intro h0;have hq0:=l1 h0;first|(dsimp only;omega)|omega|(simp;omega)|simp)))|exact x1)) hb2
 replace x5:IntsAt w2 a5 (R*C) k5 b5 o5 ys:=IntsAt.keep (by repeat (first|(with_reducible first|exact x5|refine IntsAt.alloc ?_ _|refine IntsAt.drewN ?_ _|refine IntsAt.drew ?_|(refine IntsAt.set ?_ ?_ _;rotate_left 1;(intro h0;have hq0:=l5 h0;first|(dsimp only;omega)|omega|(simp;omega)|simp)))|exact x5)) hb2
 have hwl:Below w.heap.size w w2:=(Below.x2 hb2 hb1)
 have hzb:bd<w2.heap.size:=hB.lt
 go_wp2
 go_loopw [7] (fun i wr=>∃ t:Nat,t≤R*C∧i=.int .i64 t∧Far (·=bd) w2 wr∧Box wr (w2).heap.size [.int .i64 R,.int .i64 C,.slice (some ⟨bd,0,none⟩) (R*C) (R*C)] 41 ∧
   Box wr bd ((pad (fun t=>add (ix ys t) (ix B.cells (t % C))) (R*C) t).map (Value.int .i64)) 3) (fun i _=>R*C - (intOf i).toNat)
 case atStart=>exact ⟨0,Nat.zero_le _,rfl,(Far.refl _ _).al _,Box.new _ _ _,by rw [pad_zero];exact hB.alloc _⟩
 case round=>
  obtain ⟨t,hk,rfl,hfr,Bm,Bc⟩:=hrel
  have Bmc:=Bm.cell
  have Bmf:=Bm.thawed
  have Bmz:=Bm.lt
  replace B2:=B2.farS hfr (by omega)
  have B2c:=B2.cell
  have B2f:=B2.thawed
  have B2z:=B2.lt
  have B2k:=lt_add B2z
  replace B5:=B5.farS hfr (by omega)
  have B5c:=B5.cell
  have B5f:=B5.thawed
  have B5z:=B5.lt
  have B5k:=lt_add B5z
  replace B4:=B4.farS hfr (by omega)
  have B4c:=B4.cell
  have B4f:=B4.thawed
  have B4z:=B4.lt
  have B4k:=lt_add B4z
  replace x5:=x5.farS hfr (by intro hn e;have:=l5' hn;omega)
  replace x1:=x1.farS hfr (by intro hn e;have:=l1 hn;omega)
  by_cases hlt:t<R*C
  ·have hKp:0<C:=by
    rcases Nat.eq_zero_or_pos C with h0|h0
    ·rw [h0,Nat.mul_zero] at hlt;omega
    ·exact h0
   have hm:=Nat.mod_lt t hKp
   obtain rfl:=x5.ptr (by omega)
   obtain rfl:=x1.ptr (by omega)
   have c0:=x5.cell t hlt
   have c1:=x1.cell (t % C) (by omega)
   have cc:=Bc.icell (k:=t) (by rw [pad_length];exact hlt)
   rw [pad_ix hlt,if_neg (Nat.lt_irrefl _)] at cc
   have hltI:(t:Int)<(R:Int)*C:=by rw [← Int.natCast_mul];omega
   have cf:=Bc.thawed t
   obtain ⟨j,hj⟩:∃ j,t % C=j:=⟨_,rfl⟩
   have HJ:=Lib.hid hj
   rw [hj] at c1 hm
   have hmI:(t:Int) % (C:Int)=(j:Int):=by rw [← Int.natCast_emod,hj]
   have hmT:(t:Int).tmod (C:Int)=(j:Int):=by rw [Int.tmod_eq_emod_of_nonneg (by omega)];exact hmI
   have hKz:((C:Int) == 0)=false:=by simp;omega
   have hjn:j<n':=by omega
   clear hj
   go_wp2_with fail
   go_quiet ((go_at_call 21;first|exact quiet0 (radd_any _ _)|exact quiet1 (radd_any _ _)))
   go_wp2
   go_roundw
   case rel=>
    refine ⟨t+1,by omega,by go_num,(hfr.drN _).st (fun _=>rfl) _,Bm.k,?_⟩
    have hs:=Bc.iset t (add (ix ys t) (ix B.cells (t % C)))
    rw [pad_set (g:=fun t=>add (ix ys t) (ix B.cells (t % C))) hlt,HJ.out] at hs
    exact hs
   case measure=>simp [intOf];omega
  ·skip
   obtain rfl:t=R*C:=by omega
   have hbl:=Far.toBelow hwl hfr (by omega) (by rintro t rfl;omega)
   go_wp2
   refine bodyPost_ret (v:=.agg #[.int .i64 R,.int .i64 C,.slice (some ⟨bd,0,none⟩) (R*C) (R*C)]) (by simp [results,Tryz.results73,go_sem,B4c]) rfl ⟨_,rfl,MatNew.mk (fun _=>by omega) ((ints_pad Bc (by unfold maxLen;omega)).set3 (fun _=>by omega) _ _ _),(Below.y0 hbl)⟩
theorem refGoOf_3 (W B x:Mat)
  (a a' a2:Option Addr) (n n' n2 k k' k2 b b' b2 o o' o2:Nat) (w:World) (x0:IntsAt w a n k b o W.cells) (x1:IntsAt w a' n' k' b' o' B.cells) (x2:IntsAt w a2 n2 k2 b2 o2 x.cells)
  (hg:Goes ⟨3,W,B⟩ x) :
  Calls Tryz.prog 73 #[.agg #[.int .i64 3,.int .i64 W.rows,.int .i64 W.cols,.slice a n k,.int .i64 B.rows,.int .i64 B.cols,.slice a' n' k'],.agg #[.int .i64 x.rows,.int .i64 x.cols,.slice a2 n2 k2]] w fun e w'=>∃ v,e=.returned v∧MatNew w.heap.size w' v (Lay.go ⟨3,W,B⟩ x)∧Below w.heap.size w w'
 := by
 obtain ⟨_,_,fw,fb,ft⟩:=Lay.fault_ok hg.lay
 obtain ⟨R,K,xs,rfl,hR,hK,hla,_⟩:=fault_form' hg.mat
 dsimp only at x2
 obtain rfl:R*K=n2:=by rw [← hla];exact x2.len
 have hrk:R*K≤288:=Nat.mul_le_mul hR hK
 obtain ⟨ys,hys⟩:∃ ys,upto (fun t=>mul (ix xs t) (ix W.cells 0)) (R*K)=ys:=⟨_,rfl⟩
 have hyl:ys.length=R*K:=by rw [← hys];exact upto_length _ _
 have hmm:matTimes ⟨R,K,xs⟩ (ix W.cells 0)=⟨R,K,ys⟩:=by unfold matTimes;rw [hla,hys]
 have hgo:Lay.go ⟨3,W,B⟩ ⟨R,K,xs⟩=⟨R,K,upto (fun t=>ix ys t) (R*K)⟩:=by
  rw [← hyl,upto_self,← hys]
  simp [Lay.go,hla]
 have hnw:0<n:=by
  obtain ⟨R',K',e1,e2,_,_,h3,_⟩:=matFault_ok fw
  unfold Lay.fits at ft
  dsimp only at ft e1 e2 h3
  have h4:W.rows=1∧W.cols=1:=by omega
  obtain rfl:R'=1:=by omega
  obtain rfl:K'=1:=by omega
  rw [← x0.len,h3]
  omega
 have HM:=Lib.hid hg.mat
 have HY:=Lib.hid hmm
 have HYL:=Lib.hid hyl
 rw [hgo]
 clear hgo fw fb ft hg hla hys hyl hmm
 have l0:0<n→b<w.heap.size:=x0.lt
 obtain rfl:=x0.ptr hnw
 go_enter Tryz.func73,Tryz.ntmps73
 go_wp2_with fail
 have x2':=x2.alloc (.cells #[.int .i64 3,.int .i64 W.rows,.int .i64 W.cols,.slice (some ⟨b,o,none⟩) n k,.int .i64 B.rows,.int .i64 B.cols,.slice a' n' k'] 84)
 go_region_held3 (fun w'=>w'.cell? ⟨w.heap.size+1,0,none⟩=some (.int .i64 R)∧w'.cell? ⟨w.heap.size+1,1,none⟩=some (.int .i64 K)∧w'.cell? ⟨w.heap.size+1,2,none⟩=some (.slice a2 (R*K) k2)∧w'.cell? ⟨w.heap.size,3,none⟩=some (.slice (some ⟨b,o,none⟩) n k)∧w'.cell? ⟨b,o,none⟩=some (.int .i64 (ix W.cells 0)))
  (first|exact cells371 (t:=41) (u:=84) (v0:=.int .i64 3) (v1:=.int .i64 W.rows) (v2:=.int .i64 W.cols) (v4:=.int .i64 B.rows) (v5:=.int .i64 B.cols) (v6:=.slice a' n' k') (by repeat (first|(with_reducible first|(refine (Box.new' _ (w.heap.size+1) _ _ ?_);(simp;done))|refine Box.alloc ?_ _|refine Box.drewN ?_ _|refine Box.drew ?_|refine Box.fx ?_ _|refine Box.keep ?_ hb1))) (by repeat (first|(with_reducible first|(refine (Box.new' _ (w.heap.size) _ _ ?_);(simp;done))|refine Box.alloc ?_ _|refine Box.drewN ?_ _|refine Box.drew ?_|refine Box.fx ?_ _|refine Box.keep ?_ hb1))) (IntsAt.c0 (a:=some ⟨b,o,none⟩) (cap:=k) (by repeat (first|(with_reducible first|exact x0|refine IntsAt.alloc ?_ _|refine IntsAt.drewN ?_ _|refine IntsAt.drew ?_|(refine IntsAt.set ?_ ?_ _;rotate_left 1;(intro h0;have hq0:=l0 h0;first|(dsimp only;omega)|omega|(simp;omega)|simp))|refine IntsAt.keep ?_ hb1)|exact x0)) hnw)|trivial)
  ((go_at_call 78;go_must (refine (refMatTimes_all ⟨R,K,xs⟩ (ix W.cells 0) _ _ (MatAt.mk (show IntsAt _ a2 (R*K) k2 b2 o2 xs from x2.k)) HM.out).mono ?_);go_must (rw [HY.out]);go_must (rintro e w1 ⟨v5,rfl,⟨a5,n5,k5,b5,o5,rfl,hn5,x5⟩,hb1⟩);go_must (have C5:Box w1 (w.heap.size+1+1+1) [.int .i64 R,.int .i64 K,.slice a2 (R*K) k2] 41:=Box.keep Box.x0 hb1);go_must (have C5c:=C5.cell;have C5f:=C5.thawed;have C5z:=C5.lt)))
 have hnl:R*K=n5:=by rw [← x5.len];exact HYL.out.symm
 subst hnl
 have l5:0<R*K→w.heap.size+1+1+1<b5:=fun h=>by have:=hn5 h;simp at this;omega
 have l5':=x5.lt
 have hz0:=hb1.size
 simp at hz0
 have B2:Box w1 w.heap.size [.int .i64 3,.int .i64 W.rows,.int .i64 W.cols,.slice (some ⟨b,o,none⟩) n k,.int .i64 B.rows,.int .i64 B.cols,.slice a' n' k'] 84:=Box.keep Box.x0 hb1
 have B4:Box w1 (w.heap.size+1+1) [.int .i64 0,.int .i64 0,.slice none 0 0] 41:=Box.keep Box.x0 hb1
 have B5:=C5
 have hwl1:Below w.heap.size w w1:=(Below.x1 hb1)
 go_wp2_with fail
 refine (blank_any R K (by omega) (by omega) _).mono ?_
 clear C5c C5f C5z C5
 rintro e w2 ⟨bd,rfl,hbb,hB,hb2⟩
 have hz1:=hb2.size
 simp at hz1 hbb
 have y5:=(((B5.set 0 (.int .i64 R)).set 1 (.int .i64 K)).set 2 (.slice a5 (R*K) k5)).keep hb2
 replace B5:Box w2 (w.heap.size+1+1+1) [.int .i64 R,.int .i64 K,.slice a5 (R*K) k5] 41:=y5
 have B5c:=B5.cell
 have B5f:=B5.thawed
 have B5z:=B5.lt
 replace B2:Box w2 w.heap.size [.int .i64 3,.int .i64 W.rows,.int .i64 W.cols,.slice (some ⟨b,o,none⟩) n k,.int .i64 B.rows,.int .i64 B.cols,.slice a' n' k'] 84:=Box.keep B2.k hb2
 have B2c:=B2.cell
 have B2f:=B2.thawed
 have B2z:=B2.lt
 replace B4:Box w2 (w.heap.size+1+1) [.int .i64 0,.int .i64 0,.slice none 0 0] 41:=Box.keep B4.k hb2
 have B4c:=B4.cell
 have B4f:=B4.thawed
 have B4z:=B4.lt
 clear y5
 replace x5:IntsAt w2 a5 (R*K) k5 b5 o5 ys:=IntsAt.keep (by repeat (first|(with_reducible first|exact x5|refine IntsAt.alloc ?_ _|refine IntsAt.drewN ?_ _|refine IntsAt.drew ?_|(refine IntsAt.set ?_ ?_ _;rotate_left 1;(intro h0;have hq0:=l5 h0;first|(dsimp only;omega)|omega|(simp;omega)|simp)))|exact x5)) hb2
 have hwl:Below w.heap.size w w2:=(Below.y1 hb2 hwl1)
 have hzb:bd<w2.heap.size:=hB.lt
 go_wp2
 go_loopw [7] (fun i wr=>∃ t:Nat,t≤R*K∧i=.int .i64 t∧Far (·=bd) w2 wr∧Box wr (w2).heap.size [.int .i64 R,.int .i64 K,.slice (some ⟨bd,0,none⟩) (R*K) (R*K)] 41 ∧
   Box wr bd ((pad (fun t=>ix ys t) (R*K) t).map (Value.int .i64)) 3) (fun i _=>R*K - (intOf i).toNat)
 case atStart=>exact ⟨0,Nat.zero_le _,rfl,(Far.refl _ _).al _,Box.new _ _ _,by rw [pad_zero];exact hB.alloc _⟩
 case round=>
  obtain ⟨t,hk,rfl,hfr,Bm,Bc⟩:=hrel
  have Bmc:=Bm.cell
  have Bmf:=Bm.thawed
  have Bmz:=Bm.lt
  replace B2:=B2.farS hfr (by omega)
  have B2c:=B2.cell
  have B2f:=B2.thawed
  have B2z:=B2.lt
  have B2k:=lt_add B2z
  replace B5:=B5.farS hfr (by omega)
  have B5c:=B5.cell
  have B5f:=B5.thawed
  have B5z:=B5.lt
  have B5k:=lt_add B5z
  replace B4:=B4.farS hfr (by omega)
  have B4c:=B4.cell
  have B4f:=B4.thawed
  have B4z:=B4.lt
  have B4k:=lt_add B4z
  replace x5:=x5.farS hfr (by intro hn e;have:=l5' hn;omega)
  by_cases hlt:t<R*K
  ·obtain rfl:=x5.ptr (by omega)
   have c0:=x5.cell t hlt
   have cc:=Bc.icell (k:=t) (by rw [pad_length];exact hlt)
   rw [pad_ix hlt,if_neg (Nat.lt_irrefl _)] at cc
   have hltI:(t:Int)<(R:Int)*K:=by rw [← Int.natCast_mul];omega
   have cf:=Bc.thawed t
   go_wp2
   go_roundw
   case rel=>
    refine ⟨t+1,by omega,by go_num,hfr.st (fun _=>rfl) _,Bm.k,?_⟩
    have hs:=Bc.iset t (ix ys t)
    rw [pad_set (g:=fun t=>ix ys t) hlt] at hs
    exact hs
   case measure=>simp [intOf];omega
  ·skip
   obtain rfl:t=R*K:=by omega
   have hbl:=Far.toBelow hwl hfr (by omega) (by rintro t rfl;omega)
   go_wp2
   refine bodyPost_ret (v:=.agg #[.int .i64 R,.int .i64 K,.slice (some ⟨bd,0,none⟩) (R*K) (R*K)]) (by simp [results,Tryz.results73,go_sem,B4c]) rfl ⟨_,rfl,MatNew.mk (fun _=>by omega) ((ints_pad Bc (by unfold maxLen;omega)).set3 (fun _=>by omega) _ _ _),(Below.y0 hbl)⟩
theorem refGoOf_any (l:Lay) (x:Mat) (v u:Value) (w:World) (h:LayAt w v l) (hu:MatAt w u x) (hf:l.goFault x=0) :
  Calls Tryz.prog 73 #[v,u] w fun e w'=>∃ y,e=.returned y∧MatNew w.heap.size w' y (l.go x)∧Below w.heap.size w w':=by
 obtain ⟨a,n,k,b,o,a',n',k',b',o',rfl,x0,x1⟩:=h
 obtain ⟨a2,n2,k2,b2,o2,rfl,x2⟩:=hu
 obtain ⟨g1,g2,g3⟩:=Lay.goFault_ok hf
 obtain ⟨h1,h2,_,_,_⟩:=Lay.fault_ok g1
 obtain ⟨kd,W,B⟩:=l
 dsimp only at h1 h2 x0 x1 ⊢
 rcases (by omega:kd=1∨kd=2∨kd=3∨kd=4) with rfl|rfl|rfl|rfl
 ·exact refGoOf_1 W B x _ _ _ _ _ _ _ _ _ _ _ _ _ _ _ w x0 x1 x2 ⟨g1,g2,g3⟩
 ·exact refGoOf_2 W B x _ _ _ _ _ _ _ _ _ _ _ _ _ _ _ w x0 x1 x2 ⟨g1,g2,g3⟩
 ·exact refGoOf_3 W B x _ _ _ _ _ _ _ _ _ _ _ _ _ _ _ w x0 x1 x2 ⟨g1,g2,g3⟩
 ·exact refGoOf_4 W B x _ _ _ _ _ _ _ _ _ _ _ _ _ _ _ w x0 x1 x2 ⟨g1,g2,g3⟩
end Go.Proofs.YtchngeagnlngaaaGreatDoor
end
