/- Texts joined: Mat3, Mat4, Mat5, Mat6. -/
import Derived.Test.YtchngeagnlngaaaGreatDoorJ06
import Derived.Test.YtchngeagnlngaaaGreatDoorJ05
import Derived.BigQuiet
import Derived.IntWalk
import Derived.Test.YtchngeagnlngaaaGreatDoorJ09
set_option linter.unusedVariables false
set_option linter.unusedSimpArgs false
section
namespace Go.Proofs.YtchngeagnlngaaaGreatDoor
open Go.RowKit Gal
set_option maxRecDepth 100000 in
set_option maxHeartbeats 1000000 in
theorem mulCell_any (p q:Nat) (ar ac bc:Nat) (aa ba:Option Addr) (acap bcap ab ao bb bo:Nat) (xs ys:List Int) (har:ar≤24) (hac:ac≤12) (hbc:bc≤12) (w:World)
  (hp:Box w p [.int .i64 ar,.int .i64 ac,.slice aa (ar*ac) acap] 41) (hq:Box w q [.int .i64 ac,.int .i64 bc,.slice ba (ac*bc) bcap] 41)
  (hx:IntsAt w aa (ar*ac) acap ab ao xs) (hy:IntsAt w ba (ac*bc) bcap bb bo ys) (i j:Nat) (hi:i<ar) (hj:j<bc) :
  Calls Tryz.prog 152 #[.int .i64 i,.int .i64 j,.pointer (some ⟨p,0,none⟩),.pointer (some ⟨q,0,none⟩)] w fun e w'=>e=.returned (.int .i64 (mulCell xs ys ac bc i j))∧∃ n,w'=w.drewN n:=by
 have p1:=hp.cell 1
 have p2:=hp.cell 2
 have q1:=hq.cell 1
 have q2:=hq.cell 2
 go_enter Tryz.func152,Tryz.ntmps152
 go_wp2
 go_loopw [7,11] (fun s c wr=>∃ k n:Nat,k≤ac∧c=.int .i64 k∧s=.int .i64 (sumTo (fun k=>mul (ix xs (i*ac+k)) (ix ys (k*bc+j))) k)∧wr=w.drewN n) (fun _ c _=>ac - (intOf c).toNat)
 case atStart=>exact ⟨0,0,Nat.zero_le _,rfl,rfl,rfl⟩
 case round=>
  obtain ⟨k,n,hk,rfl,rfl,rfl⟩:=hrel
  by_cases hlt:k<ac
  ·have hia:=cell_lt hi hlt
   have hkb:=cell_lt hlt hj
   obtain rfl:=hx.ptr (by omega)
   obtain rfl:=hy.ptr (by omega)
   have ca:=hx.cell _ hia
   have cb:=hy.cell _ hkb
   have e1:(i:Int)*ac≤288:=by have:=Nat.mul_le_mul (show i≤24 by omega) hac;rw [← Int.natCast_mul];omega
   have e2:(k:Int)*bc≤288:=by have:=Nat.mul_le_mul (show k≤24 by omega) hbc;rw [← Int.natCast_mul];omega
   have e3:(0:Int)≤(i:Int)*ac:=by rw [← Int.natCast_mul];omega
   have e4:(0:Int)≤(k:Int)*bc:=by rw [← Int.natCast_mul];omega
   have w1:IntKind.i64.wrap ((i:Int)*ac)=(i:Int)*ac:=IntWalk.i64_in _ (by omega)
   have w2:IntKind.i64.wrap ((k:Int)*bc)=(k:Int)*bc:=IntWalk.i64_in _ (by omega)
   have w3:IntKind.i64.wrap ((i:Int)*ac+k)=(i:Int)*ac+k:=IntWalk.i64_in _ (by omega)
   have w4:IntKind.i64.wrap ((k:Int)*bc+j)=(k:Int)*bc+j:=IntWalk.i64_in _ (by omega)
   have x1:(i:Int)*ac+k<(ar:Int)*ac:=by rw [← Int.natCast_mul,← Int.natCast_mul];omega
   have x2:(k:Int)*bc+j<(ac:Int)*bc:=by rw [← Int.natCast_mul,← Int.natCast_mul];omega
   have x3:0≤(i:Int)*ac+k:=by omega
   have x4:0≤(k:Int)*bc+j:=by omega
   have x5:((i:Int)*ac+k).toNat=i*ac+k:=by rw [← Int.natCast_mul];omega
   have x6:((k:Int)*bc+j).toNat=k*bc+j:=by rw [← Int.natCast_mul];omega
   go_wp2
   go_quiet ((first|(go_at_call 88;first|exact quiet0 (mul_any _ _)|exact quiet1 (mul_any _ _))|(go_at_call 63;first|exact quiet0 (add_any _ _)|exact quiet1 (add_any _ _))))
   go_wp2
   go_roundw
   case rel=>exact ⟨k+1,_,by omega,by go_num,rfl,rfl⟩
   case measure=>simp [intOf];omega
  ·obtain rfl:k=ac:=by omega
   go_wp2
   go_ret
   exact ⟨rfl,_,rfl⟩
theorem turnCell_any (p:Nat) (ar ac:Nat) (aa:Option Addr) (acap ab ao:Nat) (xs:List Int) (har:ar≤24) (hac:ac≤12) (w:World)
  (hp:Box w p [.int .i64 ar,.int .i64 ac,.slice aa (ar*ac:Nat) acap] 41) (hx:IntsAt w aa (ar*ac) acap ab ao xs) (i j:Nat) (hi:i<ac) (hj:j<ar) :
  Calls Tryz.prog 151 #[.int .i64 i,.int .i64 j,.pointer (some ⟨p,0,none⟩)] w fun e w'=>e=.returned (.int .i64 (ix xs (j*ac+i)))∧∃ n,w'=w.drewN n:=by
 have p1:=hp.cell 1
 have p2:=hp.cell 2
 have hji:=cell_lt hj hi
 obtain rfl:=hx.ptr (by omega)
 have ca:=hx.cell _ hji
 have e1:(j:Int)*ac≤288:=by have:=Nat.mul_le_mul (show j≤24 by omega) hac;rw [← Int.natCast_mul];omega
 have e3:(0:Int)≤(j:Int)*ac:=by rw [← Int.natCast_mul];omega
 have w1:IntKind.i64.wrap ((j:Int)*ac)=(j:Int)*ac:=IntWalk.i64_in _ (by omega)
 have w3:IntKind.i64.wrap ((j:Int)*ac+i)=(j:Int)*ac+i:=IntWalk.i64_in _ (by omega)
 have x1:(j:Int)*ac+i<(ar:Int)*ac:=by rw [← Int.natCast_mul,← Int.natCast_mul];omega
 have x3:0≤(j:Int)*ac+i:=by omega
 have x5:((j:Int)*ac+i).toNat=j*ac+i:=by rw [← Int.natCast_mul];omega
 go_enter Tryz.func151,Tryz.ntmps151
 go_wp2
 go_ret
 exact ⟨rfl,0,rfl⟩
end Go.Proofs.YtchngeagnlngaaaGreatDoor
end
section
namespace Go.Proofs.YtchngeagnlngaaaGreatDoor
open Go.RowKit Gal
set_option maxRecDepth 100000 in
set_option maxHeartbeats 1000000 in
theorem check_any (a:Option Addr) (n cap b off:Nat) (ms:List Mat) (w:World) (hm:MatsAt w a n cap b off ms) :
  Calls Tryz.prog 105 #[.slice a n cap] w fun e w'=>e=.returned (errV (firstFault ms))∧Below w.heap.size w w':=by
 have hl:=hm.len
 have hmx:=hm.max
 unfold maxLen at hmx
 go_enter Tryz.func105,Tryz.ntmps105
 go_wp2
 go_loopw [8] (fun i wr=>∃ k:Nat,k≤n∧i=.int .i64 k∧Below w.heap.size w wr∧∀ j,j<k→(mx ms j).fault=0) (fun i _=>n - (intOf i).toNat)
 case atStart=>exact ⟨0,Nat.zero_le _,rfl,Below.refl _ _,fun j hj=>absurd hj (Nat.not_lt_zero _)⟩
 case round=>
  obtain ⟨k,hk,rfl,hb,hpre⟩:=hrel
  have HP:=Lib.hid hpre
  clear hpre
  by_cases hlt:k<n
  ·obtain rfl:=hm.ptr (by omega)
   have hbs:=hm.lt (by omega)
   obtain ⟨a',n',cap',b',off',m0,m1,m2,hb',hi⟩:=hm.cell k hlt
   have c0:=(hb.cell (p:=⟨b,off+k*3,none⟩) hbs).trans m0
   have c1:=(hb.cell (p:=⟨b,off+k*3+1,none⟩) hbs).trans m1
   have c2:=(hb.cell (p:=⟨b,off+k*3+2,none⟩) hbs).trans m2
   clear m0 m1 m2
   by_cases hf:(mx ms k).fault=0
   ·have hE:errV (matFault (mx ms k).rows (mx ms k).cols (mx ms k).cells)=.nilIface:=errV_nil hf
    have HF:=Lib.hid hf
    clear hf
    go_wp2_with fail
    refine (matCheck_any (mx ms k).rows (mx ms k).cols a' n' cap' b' off' (mx ms k).cells _ ((hi.below hb hb').alloc _)).mono ?_
    rintro e w1 ⟨rfl,hb1⟩
    go_wp2
    go_roundw
    case rel=>exact ⟨k+1,by omega,by go_num,(hb.alloc hb.size _).trans (hb1.mono (by simp;have:=hb.size;omega)),fun j hj=>by
     by_cases e:j=k
     ·rw [e];exact HF.out
     ·exact HP.out j (by omega)⟩
    case measure=>simp [intOf];omega
   ·have hE:errV (matFault (mx ms k).rows (mx ms k).cols (mx ms k).cells)=.iface 36 (.int .i64 (matFault (mx ms k).rows (mx ms k).cols (mx ms k).cells)):=errV_err hf
    have HF:=Lib.hid hf
    clear hf
    go_wp2_with fail
    refine (matCheck_any (mx ms k).rows (mx ms k).cols a' n' cap' b' off' (mx ms k).cells _ ((hi.below hb hb').alloc _)).mono ?_
    rintro e w1 ⟨rfl,hb1⟩
    go_wp2
    go_ret
    refine ⟨ret_val ?_,(hb.alloc hb.size _).trans (hb1.mono (by simp;have:=hb.size;omega))⟩
    rw [firstFault_at (by rw [hl];exact hlt) (fun j hj=>HP.out j hj) HF.out,errV_err HF.out]
    rfl
  ·go_wp2
   go_ret
   refine ⟨ret_val ?_,hb⟩
   rw [firstFault_none (fun j hj=>HP.out j (by omega)),errV_nil rfl]
   rfl
end Go.Proofs.YtchngeagnlngaaaGreatDoor
end
section
namespace Go.Proofs.YtchngeagnlngaaaGreatDoor
open Go.RowKit Gal
theorem cf_mul (vs:Array Value) (W:World):(callFunc 152 vs).run Tryz.prog W=.ok (.enter 152 vs) W:=by kernel_rfl
set_option maxRecDepth 100000 in
set_option maxHeartbeats 1000000 in
theorem matMul_new (ma mb:Mat) (va vb:Value) (w:World) (ha:MatAt w va ma) (hb:MatAt w vb mb) (hf:mulFault ma mb=0) :
  Calls Tryz.prog 148 #[va,vb] w fun e w'=>∃ v,e=.returned (.tuple #[v,.nilIface])∧MatNew w.heap.size w' v (matMul ma mb)∧Below w.heap.size w w':=by
 obtain ⟨hc,hcr⟩:=mulFault_ok hf
 obtain ⟨fa,fb⟩:=firstFault_two.1 hc
 obtain ⟨R,K,eR,eK,hR,hK,hla,hea⟩:=matFault_ok fa
 obtain ⟨K',C,eK',eC,hK',hC,hlb,heb⟩:=matFault_ok fb
 obtain ⟨mar,mac,xs⟩:=ma
 obtain ⟨mbr,mbc,ys⟩:=mb
 dsimp only at eR eK eK' eC hcr hla hlb
 subst eR eK eK' eC
 obtain rfl:K=K':=by omega
 clear hcr hea heb
 obtain ⟨a0,n0,k0,b0,o0,rfl,h0⟩:=ha
 obtain ⟨a1,n1,k1,b1,o1,rfl,h1⟩:=hb
 obtain rfl:R*K=n0:=by rw [← hla];exact h0.len
 obtain rfl:K*C=n1:=by rw [← hlb];exact h1.len
 dsimp only at h0 h1
 have hE:errV (firstFault [⟨R,K,xs⟩,⟨K,C,ys⟩])=.nilIface:=errV_nil hc
 clear hf hc fa fb hla hlb
 go_enter Tryz.func148,Tryz.ntmps148
 go_wp2_with fail
 refine (check_any _ _ _ _ _ [⟨R,K,xs⟩,⟨K,C,ys⟩] _ (mats2 (Box.new' _ _ _ _ (by simp)) (h0.alloc _ |>.alloc _ |>.alloc _ |>.alloc _) (h1.alloc _ |>.alloc _ |>.alloc _ |>.alloc _))).mono ?_
 rintro e w1 ⟨rfl,hb1⟩
 have B2:=(((Box.new' _ w.heap.size _ _ (by simp)).alloc _).alloc _ |>.alloc _).keep hb1
 have B2c:=B2.cell
 have B2f:=B2.thawed
 have B2z:=B2.lt
 have B2k:=lt_add B2z
 have B3:=((Box.new' _ (w.heap.size+1) _ _ (by simp)).alloc _ |>.alloc _).keep hb1
 have B3c:=B3.cell
 have B3f:=B3.thawed
 have B3z:=B3.lt
 have B3k:=lt_add B3z
 have B4:=((Box.new' _ (w.heap.size+1+1) _ _ (by simp)).alloc _).keep hb1
 have B4c:=B4.cell
 have B4f:=B4.thawed
 have B4z:=B4.lt
 have B4k:=lt_add B4z
 have z1:=hb1.size
 simp at z1
 go_wp2_with fail
 have x0:=(h0.alloc _ |>.alloc _ |>.alloc _ |>.alloc _).keep hb1
 have x1:=(h1.alloc _ |>.alloc _ |>.alloc _ |>.alloc _).keep hb1
 refine (filled_any R C hR (by omega) 152 #[.pointer (some ⟨w.heap.size,0,none⟩),.pointer (some ⟨w.heap.size+1,0,none⟩)] (mulCell xs ys K C) _ cf_mul ?_).mono ?_
 ·intro i j hi hj W hW
  exact mulCell_any _ _ R K C _ _ _ _ _ _ _ _ xs ys hR hK hC W (B2.keep hW) (B3.keep hW) (x0.keep hW) (x1.keep hW) i j hi hj
 ·rintro e w2 ⟨a2,k2,b2,rfl,hn2,hi2,hb2⟩
  have C4:=B4.keep hb2
  have C4c:=C4.cell
  have C4f:=C4.thawed
  have C4z:=C4.lt
  have C4k:=lt_add C4z
  go_wp2
  refine bodyPost_ret (v:=.tuple #[.agg #[.int .i64 R,.int .i64 C,.slice a2 (R*C) k2],.nilIface]) (by simp [results,Tryz.results148,go_sem,C4c]) rfl ⟨_,rfl,MatNew.mk (fun h=>by have:=hn2 h;omega) (hi2.set3 (fun h=>by have:=hn2 h;omega) _ _ _),(Below.x2 hb2 hb1)⟩
theorem matMul_ok (ma mb:Mat) (va vb:Value) (w:World) (ha:MatAt w va ma) (hb:MatAt w vb mb) (hf:mulFault ma mb=0) :
  Calls Tryz.prog 148 #[va,vb] w fun e w'=>∃ v,e=.returned (.tuple #[v,.nilIface])∧MatAt w' v (matMul ma mb)∧Below w.heap.size w w':=
 (matMul_new ma mb va vb w ha hb hf).mono fun _ _ ⟨v,h1,h2,h3⟩=>⟨v,h1,h2.at,h3⟩
end Go.Proofs.YtchngeagnlngaaaGreatDoor
end
section
namespace Go.Proofs.YtchngeagnlngaaaGreatDoor
open Go.RowKit Gal
attribute [local go_sem ↓] Go.wp_at_zero Go.wp_at_succ
theorem cf_turn (vs:Array Value) (W:World):(callFunc 151 vs).run Tryz.prog W=.ok (.enter 151 vs) W:=by kernel_rfl
set_option maxRecDepth 100000 in
set_option maxHeartbeats 1000000 in
theorem matTurn_new (ma:Mat) (va:Value) (w:World) (ha:MatAt w va ma) (hf:turnFault ma=0) :
  Calls Tryz.prog 147 #[va] w fun e w'=>∃ v,e=.returned (.tuple #[v,.nilIface])∧MatNew w.heap.size w' v (matTurn ma)∧Below w.heap.size w w':=by
 obtain ⟨fa,h12⟩:=turnFault_ok hf
 obtain ⟨R,K,eR,eK,hR,hK,hla,hea⟩:=matFault_ok fa
 obtain ⟨mar,mac,xs⟩:=ma
 dsimp only at eR eK hla h12
 subst eR eK
 clear hea
 obtain ⟨a0,n0,k0,b0,o0,rfl,h0⟩:=ha
 obtain rfl:R*K=n0:=by rw [← hla];exact h0.len
 dsimp only at h0
 have hE:errV (matFault R K xs)=.nilIface:=errV_nil fa
 clear hf fa hla
 go_enter Tryz.func147,Tryz.ntmps147
 go_wp2_with fail
 refine (matCheck_any _ _ _ _ _ _ _ xs _ (h0.alloc _ |>.alloc _)).mono ?_
 rintro e w1 ⟨rfl,hb1⟩
 have B2:=((Box.new' _ w.heap.size _ _ (by simp)).alloc _).keep hb1
 have B2c:=B2.cell
 have B2f:=B2.thawed
 have B2z:=B2.lt
 have B2k:=lt_add B2z
 have B4:=(Box.new' _ (w.heap.size+1) _ _ (by simp)).keep hb1
 have B4c:=B4.cell
 have B4f:=B4.thawed
 have B4z:=B4.lt
 have B4k:=lt_add B4z
 have z1:=hb1.size
 simp at z1
 go_wp2_with fail
 have x0:=(h0.alloc _ |>.alloc _).keep hb1
 refine (filled_any K R (by omega) hR 151 #[.pointer (some ⟨w.heap.size,0,none⟩)] (fun i j=>ix xs (j*K+i)) _ cf_turn ?_).mono ?_
 ·intro i j hi hj W hW
  exact turnCell_any _ R K _ _ _ _ xs hR hK W (B2.keep hW) (x0.keep hW) i j hi hj
 ·rintro e w2 ⟨a2,k2,b2,rfl,hn2,hi2,hb2⟩
  have C4:=B4.keep hb2
  have C4c:=C4.cell
  have C4f:=C4.thawed
  have C4z:=C4.lt
  have C4k:=lt_add C4z
  go_wp2
  exact bodyPost_ret (v:=.tuple #[.agg #[.int .i64 K,.int .i64 R,.slice a2 (K*R) k2],.nilIface]) (by simp [results,Tryz.results147,go_sem,C4c]) rfl ⟨_,rfl,MatNew.mk (fun h=>by have:=hn2 h;omega) (hi2.set3 (fun h=>by have:=hn2 h;omega) _ _ _),(Below.x2 hb2 hb1)⟩
set_option maxRecDepth 100000 in
set_option maxHeartbeats 1000000 in
theorem clone_any (a:Option Addr) (n cap b off:Nat) (xs:List Int) (w:World) (h:IntsAt w a n cap b off xs) (hn:n*8≤140737488355328) :
  Calls Tryz.prog 100 #[.slice a n cap] w fun e w'=>∃ a' cap' b',e=.returned (.slice a' n cap')∧(0<n→w.heap.size≤b')∧IntsAt w' a' n cap' b' 0 xs∧Below w.heap.size w w':=by
 obtain ⟨i0,hi,hz0,hz1,hz2⟩:=info_parts info_int
 have hnil:=fun W=>Lib.run_eql_slice_nil (P:=Tryz.prog) W 29 3 a n cap 0 0 Tryz.underlying29
 cases a with
 | none=>
  have h0:n=0:=by
   rcases Nat.eq_zero_or_pos n with h0|h0
   ·exact h0
   ·have:=h.ptr h0;cases this
  subst h0
  go_enter Tryz.func100,Tryz.ntmps100
  go_wp2
  go_ret
  exact ⟨none,0,b,rfl,fun h0=>absurd h0 (Nat.lt_irrefl _),⟨h.len,Nat.le_refl _,Nat.zero_le _,fun h0=>absurd h0 (Nat.lt_irrefl _),fun h0=>absurd h0 (Nat.lt_irrefl _),fun i hi=>absurd hi (Nat.not_lt_zero _)⟩,Below.refl _ _⟩
 | some A=>
  have hl:=h.len
  have hmx:=h.max
  have H:=Lib.hid h
  clear h
  have HL:=Lib.hid hl
  clear hl
  go_enter Tryz.func100,Tryz.ntmps100
  go_wp2_with (at_builtin;refine wpList_append_own _ rfl (.tmp 5) (.tmp 6) 29 rfl w.heap.size 3 i0 (.int .i64 0) 1 8 Tryz.underlying29 hi hz0 hz1 hz2 rfl (by decide) (.slice (some ⟨w.heap.size,0,none⟩) 0 0) 0 [] rfl ?c1 A n cap (xs.map (Value.int .i64)) rfl ?c2 ?c3 ?c4 ?c5 ?c6 ?c7 ?_)
  case c1=>exact own_made w _ _ _ _ #[] 0 rfl (Nat.le_refl _) (Nat.zero_le _) rfl
  case c2=>rw [List.length_map,HL.out,Nat.mul_one]
  case c3=>exact (H.out.alloc _).news
  case c4=>exact ints_one xs
  case c5=>omega
  case c6=>omega
  case c7=>simp
  intro v' w' hown hgrow _
  go_wp2
  go_ret
  obtain ⟨a',c',b',rfl,hbb,hin⟩:=IntsAt.of_own hown
  exact ⟨a',c',b',rfl,hbb,hin,Below.grown (((Below.refl _ w)).al _) hgrow (by simp) (fun k hk=>by simp [Value.ownBlock] at hk;omega)⟩
set_option maxRecDepth 100000 in
set_option maxHeartbeats 1000000 in
theorem matRows_new (ma:Mat) (va:Value) (lo hi:Int) (w:World) (ha:MatAt w va ma) (hf:rowsFault ma lo hi=0) :
  Calls Tryz.prog 98 #[va,.int .i64 lo,.int .i64 hi] w fun e w'=>∃ v,e=.returned (.tuple #[v,.nilIface])∧MatNew w.heap.size w' v (matRows ma lo hi)∧Below w.heap.size w w':=by
 obtain ⟨fa,q0,q1,q2⟩:=rowsFault_ok hf
 obtain ⟨R,K,eR,eK,hR,hK,hla,hea⟩:=matFault_ok fa
 obtain ⟨mar,mac,xs⟩:=ma
 obtain ⟨L,rfl⟩:=Int.eq_ofNat_of_zero_le q0
 obtain ⟨H,rfl⟩:=Int.eq_ofNat_of_zero_le (show 0≤hi by omega)
 dsimp only at eR eK hla q2
 subst eR eK
 clear hea
 obtain ⟨a0,n0,k0,b0,o0,rfl,h0⟩:=ha
 obtain rfl:R*K=n0:=by rw [← hla];exact h0.len
 dsimp only at h0
 have hE:errV (matFault R K xs)=.nilIface:=errV_nil fa
 have hLK:L*K≤H*K:=Nat.mul_le_mul_right K (by omega)
 have hHK:H*K≤R*K:=Nat.mul_le_mul_right K (by omega)
 have hRK:R*K≤288:=Nat.mul_le_mul hR hK
 have e1:(L:Int)*K≤288:=by rw [← Int.natCast_mul];omega
 have e2:(0:Int)≤(L:Int)*K:=by rw [← Int.natCast_mul];omega
 have e3:(H:Int)*K≤288:=by rw [← Int.natCast_mul];omega
 have e4:(0:Int)≤(H:Int)*K:=by rw [← Int.natCast_mul];omega
 have w1:IntKind.i64.wrap ((L:Int)*K)=(L:Int)*K:=IntWalk.i64_in _ (by omega)
 have w2:IntKind.i64.wrap ((H:Int)*K)=(H:Int)*K:=IntWalk.i64_in _ (by omega)
 have w3:IntKind.i64.wrap ((H:Int) - L)=(H:Int) - L:=IntWalk.i64_in _ (by omega)
 obtain ⟨sa,hsl,hsi⟩:=run_slice_lohi w 29 3 Tryz.underlying29 (fun W=>by simp [go_sem]) h0 (L*K) (H*K) ((L:Int)*K) ((H:Int)*K) (by rw [Int.natCast_mul]) (by rw [Int.natCast_mul]) hLK hHK
 have hlen:(H*K - L*K)*8≤140737488355328:=by omega
 clear hf fa hla
 go_enter Tryz.func98,Tryz.ntmps98
 go_wp2_with fail
 refine (matCheck_any _ _ _ _ _ _ _ xs _ (h0.alloc _ |>.alloc _)).mono ?_
 rintro e W1 ⟨rfl,hb1⟩
 have B2:=((Box.new' _ w.heap.size _ _ (by simp)).alloc _).keep hb1
 have B2c:=B2.cell
 have B2f:=B2.thawed
 have B2z:=B2.lt
 have B2k:=lt_add B2z
 have B4:=(Box.new' _ (w.heap.size+1) _ _ (by simp)).keep hb1
 have B4c:=B4.cell
 have B4f:=B4.thawed
 have B4z:=B4.lt
 have B4k:=lt_add B4z
 have z1:=hb1.size
 simp at z1
 have x0:=(hsi.alloc _ |>.alloc _).keep hb1
 have x1:IntsAt W1.drew sa (H*K - L*K) (k0 - L*K) b0 (o0+L*K) (piece xs (L*K) (H*K)):=x0.drewN 1
 go_wp2_with fail
 go_region_held3 (fun w'=>w'.cell? ⟨w.heap.size,0,none⟩=some (.int .i64 R)∧w'.cell? ⟨w.heap.size,1,none⟩=some (.int .i64 K)∧w'.cell? ⟨w.heap.size,2,none⟩=some (.slice a0 (R*K) k0)) (first|(exact ⟨B2.cell 0,B2.cell 1,B2.cell 2⟩)|(exact ⟨(B2.drew.keep hb2).cell 0,(B2.drew.keep hb2).cell 1,(B2.drew.keep hb2).cell 2⟩)|(go_keep;done)) (first|(go_at_call 100;go_must (refine (clone_any sa (H*K - L*K) (k0 - L*K) b0 (o0+L*K) (piece xs (L*K) (H*K)) _ ?_ hlen).mono ?_);go_must (exact x1);go_must (rintro e W2 ⟨a2,k2,b2,rfl,hn2,hi2,hb2⟩);go_must (have C4:=B4.drew.keep hb2);have C4c:=C4.cell;have C4f:=C4.thawed))
 all_goals (
  go_wp2
  exact bodyPost_ret (v:=.tuple #[.agg #[.int .i64 ((H:Int) - L),.int .i64 K,.slice a2 (H*K - L*K) k2],.nilIface]) (by simp [results,Tryz.results98,go_sem,C4c]) rfl ⟨_,rfl,MatNew.mk (fun h=>by have:=hn2 h;simp at this;omega) (hi2.set3 (fun h=>by have:=hn2 h;simp at this;omega) _ _ _),(Below.x2 hb2 hb1)⟩)
end Go.Proofs.YtchngeagnlngaaaGreatDoor
end
