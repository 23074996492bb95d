/- Texts joined: Mat8, Batch2, OwnOne. -/
import Derived.Test.YtchngeagnlngaaaGreatDoorJ10
import Derived.Test.YtchngeagnlngaaaGreatDoorJ05
import Derived.Test.YtchngeagnlngaaaGreatDoorJ01
import Derived.Test.YtchngeagnlngaaaGreatDoorJ09
import Derived.Test.YtchngeagnlngaaaGreatDoorJ03
import Derived.Test.YtchngeagnlngaaaGreatDoorJ06
set_option linter.unusedVariables false
set_option linter.unusedSimpArgs false
set_option linter.unusedSectionVars false
section
namespace Go.Proofs.YtchngeagnlngaaaGreatDoor
open Go.RowKit Gal
attribute [local go_sem ↓] Go.wp_at_zero Go.wp_at_succ
theorem none_new (base:Nat) (w:World):MatNew base w (.agg #[.int .i64 0,.int .i64 0,.slice none 0 0]) Mat.none:=
 ⟨none,0,0,0,0,rfl,fun h=>absurd h (Nat.lt_irrefl _),rfl,Nat.le_refl _,Nat.zero_le _,fun h=>absurd h (Nat.lt_irrefl _),fun h=>absurd h (Nat.lt_irrefl _),fun i hi=>absurd hi (Nat.not_lt_zero _)⟩
def orNone (f:Int) (m:Mat):Mat:=if f=0 then m else Mat.none
theorem orNone_ok {f:Int} {m:Mat} (h:f=0):orNone f m=m:=if_pos h
theorem orNone_bad {f:Int} {m:Mat} (h:f≠0):orNone f m=Mat.none:=if_neg h
theorem cf_add (vs:Array Value) (W:World):(callFunc 107 vs).run Tryz.prog W=.ok (.enter 107 vs) W:=by kernel_rfl
theorem addCell_any (p q:Nat) (ar ac:Nat) (aa ba:Option Addr) (acap bcap ab ao bb bo:Nat) (xs ys:List Int) (har:ar≤24) (hac:ac≤12) (w:World)
  (hp:Box w p [.int .i64 ar,.int .i64 ac,.slice aa (ar*ac:Nat) acap] 41) (hq:Box w q [.int .i64 ar,.int .i64 ac,.slice ba (ar*ac:Nat) bcap] 41) (hx:IntsAt w aa (ar*ac) acap ab ao xs) (hy:IntsAt w ba (ar*ac) bcap bb bo ys) (i j:Nat) (hi:i<ar) (hj:j<ac) :
  Calls Tryz.prog 107 #[.int .i64 i,.int .i64 j,.pointer (some ⟨p,0,none⟩),.pointer (some ⟨q,0,none⟩)] w fun e w'=>e=.returned (.int .i64 (add (ix xs (i*ac+j)) (ix ys (i*ac+j))))∧∃ n,w'=w.drewN n:=by
 have p1:=hp.cell 1
 have p2:=hp.cell 2
 have q2:=hq.cell 2
 have hji:=cell_lt hi hj
 obtain rfl:=hx.ptr (by omega)
 obtain rfl:=hy.ptr (by omega)
 have ca:=hx.cell _ hji
 have cb:=hy.cell _ hji
 have e1:(i:Int)*ac≤288:=by have:=Nat.mul_le_mul (show i≤24 by omega) hac;rw [← Int.natCast_mul];omega
 have e3:(0:Int)≤(i:Int)*ac:=by rw [← Int.natCast_mul];omega
 have w1:IntKind.i64.wrap ((i:Int)*ac)=(i:Int)*ac:=IntWalk.i64_in _ (by omega)
 have w3:IntKind.i64.wrap ((i:Int)*ac+j)=(i:Int)*ac+j:=IntWalk.i64_in _ (by omega)
 have x1:(i:Int)*ac+j<(ar:Int)*ac:=by rw [← Int.natCast_mul,← Int.natCast_mul];omega
 have x3:0≤(i:Int)*ac+j:=by omega
 have x5:((i:Int)*ac+j).toNat=i*ac+j:=by rw [← Int.natCast_mul];omega
 go_enter Tryz.func107,Tryz.ntmps107
 go_wp2_with fail
 go_quiet ((go_at_call 63;first|exact quiet0 (add_any _ _)|exact quiet1 (add_any _ _)))
 go_wp2
 go_ret
 exact ⟨rfl,_,rfl⟩
theorem cf_sums (vs:Array Value) (W:World):(callFunc 153 vs).run Tryz.prog W=.ok (.enter 153 vs) W:=by kernel_rfl
set_option maxRecDepth 100000 in
set_option maxHeartbeats 1000000 in
theorem sumsCell_any (p:Nat) (ar ac:Nat) (aa:Option Addr) (acap ab ao:Nat) (xs:List Int) (har:ar≤24) (hac:ac≤12) (w:World)
  (hp:Box w p [.int .i64 ar,.int .i64 ac,.slice aa (ar*ac:Nat) acap] 41) (hx:IntsAt w aa (ar*ac) acap ab ao xs) (i j:Nat) (hj:j<ac) :
  Calls Tryz.prog 153 #[.int .i64 i,.int .i64 j,.pointer (some ⟨p,0,none⟩)] w fun e w'=>e=.returned (.int .i64 (sumTo (fun i=>ix xs (i*ac+j)) ar))∧∃ n,w'=w.drewN n:=by
 have p0:=hp.cell 0
 have p1:=hp.cell 1
 have p2:=hp.cell 2
 go_enter Tryz.func153,Tryz.ntmps153
 go_wp2
 go_loopw [6,10] (fun s c wr=>∃ k n:Nat,k≤ar∧c=.int .i64 k∧s=.int .i64 (sumTo (fun i=>ix xs (i*ac+j)) k)∧wr=w.drewN n) (fun _ c _=>ar - (intOf c).toNat)
 case atStart=>exact ⟨0,0,Nat.zero_le _,rfl,rfl,rfl⟩
 case round=>
  obtain ⟨k,n,hk,rfl,rfl,rfl⟩:=hrel
  by_cases hlt:k<ar
  ·have hia:=cell_lt hlt hj
   obtain rfl:=hx.ptr (by omega)
   have ca:=hx.cell _ hia
   have e1:(k:Int)*ac≤288:=by have:=Nat.mul_le_mul (show k≤24 by omega) hac;rw [← Int.natCast_mul];omega
   have e3:(0:Int)≤(k:Int)*ac:=by rw [← Int.natCast_mul];omega
   have w1:IntKind.i64.wrap ((k:Int)*ac)=(k:Int)*ac:=IntWalk.i64_in _ (by omega)
   have w3:IntKind.i64.wrap ((k:Int)*ac+j)=(k:Int)*ac+j:=IntWalk.i64_in _ (by omega)
   have x1:(k:Int)*ac+j<(ar:Int)*ac:=by rw [← Int.natCast_mul,← Int.natCast_mul];omega
   have x3:0≤(k:Int)*ac+j:=by omega
   have x5:((k:Int)*ac+j).toNat=k*ac+j:=by rw [← Int.natCast_mul];omega
   go_wp2_with (go_at_call 63;refine (add_any _ _ _).mono ?_;rintro e w' ⟨rfl,rfl⟩)
   go_roundw
   case rel=>exact ⟨k+1,_,by omega,by go_num,rfl,rfl⟩
   case measure=>simp [intOf];omega
  ·obtain rfl:k=ar:=by omega
   go_wp2
   go_ret
   exact ⟨rfl,_,rfl⟩
def addOf (a b:Mat):Mat:=⟨a.rows,a.cols,grid (fun i j=>add (ix a.cells (i*a.cols.toNat+j)) (ix b.cells (i*a.cols.toNat+j))) a.cols.toNat a.rows.toNat⟩
theorem addOf_is {R K:Nat} {xs ys:List Int} (hl:xs.length=R*K):addOf ⟨R,K,xs⟩ ⟨R,K,ys⟩=matAdd ⟨R,K,xs⟩ ⟨R,K,ys⟩:=by
 unfold addOf matAdd
 simp only [Int.toNat_natCast]
 rw [grid_upto,hl]
 congr 1
 refine upto_congr fun p hp=>?_
 rw [place_is]
set_option maxRecDepth 100000 in
set_option maxHeartbeats 1000000 in
theorem matAdd_any (ma mb:Mat) (va vb:Value) (w:World) (ha:MatAt w va ma) (hb:MatAt w vb mb) :
  Calls Tryz.prog 91 #[va,vb] w fun e w'=>∃ v,e=.returned (.tuple #[v,errV (lossFault ma mb)])∧MatNew w.heap.size w' v (orNone (lossFault ma mb) (matAdd ma mb))∧Below w.heap.size w w':=by
 by_cases hf:lossFault ma mb=0
 ·rw [orNone_ok hf,errV_nil hf]
  obtain ⟨fa,fb,er,ec⟩:=lossFault_ok hf
  have hc:firstFault [ma,mb]=0:=firstFault_two.2 ⟨fa,fb⟩
  obtain ⟨R,K,eR,eK,hR,hK,hla,hea⟩:=matFault_ok fa
  obtain ⟨mar,mac,xs⟩:=ma
  obtain ⟨mbr,mbc,ys⟩:=mb
  dsimp only at eR eK hla er ec
  subst er ec eR eK
  have hlb:ys.length=R*K:=by
   obtain ⟨R',K',e1,e2,_,_,h,_⟩:=matFault_ok fb
   dsimp only at e1 e2
   obtain rfl:R=R':=by omega
   obtain rfl:K=K':=by omega
   exact h
  rw [← addOf_is hla]
  unfold addOf
  simp only [Int.toNat_natCast]
  clear hea
  obtain ⟨a0,n0,k0,b0,o0,rfl,h0⟩:=ha
  obtain ⟨a1,n1,k1,b1,o1,rfl,h1⟩:=hb
  obtain rfl:R*K=n0:=by rw [← hla];exact h0.len
  obtain rfl:R*K=n1:=by rw [← hlb];exact h1.len
  dsimp only at h0 h1
  have hE:errV (firstFault [⟨R,K,xs⟩,⟨R,K,ys⟩])=.nilIface:=errV_nil hc
  have q1:((R:Int) != R)=false:=by simp
  have q2:((K:Int) != K)=false:=by simp
  clear hf hc fa fb hla hlb
  go_enter Tryz.func91,Tryz.ntmps91
  go_wp2_with fail
  refine (check_any _ _ _ _ _ [⟨R,K,xs⟩,⟨R,K,ys⟩] _ (mats2 (Box.new' _ _ _ _ (by simp)) (h0.alloc _ |>.alloc _ |>.alloc _ |>.alloc _) (h1.alloc _ |>.alloc _ |>.alloc _ |>.alloc _))).mono ?_
  rintro e w1 ⟨rfl,hb1⟩
  have B2:=(((Box.new' _ w.heap.size _ _ (by simp)).alloc _).alloc _ |>.alloc _).keep hb1
  have B2c:=B2.cell
  have B2f:=B2.thawed
  have B2z:=B2.lt
  have B2k:=lt_add B2z
  have B3:=((Box.new' _ (w.heap.size+1) _ _ (by simp)).alloc _ |>.alloc _).keep hb1
  have B3c:=B3.cell
  have B3f:=B3.thawed
  have B3z:=B3.lt
  have B3k:=lt_add B3z
  have B4:=((Box.new' _ (w.heap.size+1+1) _ _ (by simp)).alloc _).keep hb1
  have B4c:=B4.cell
  have B4f:=B4.thawed
  have B4z:=B4.lt
  have B4k:=lt_add B4z
  have z1:=hb1.size
  simp at z1
  go_wp2_with fail
  have x0:=(h0.alloc _ |>.alloc _ |>.alloc _ |>.alloc _).keep hb1
  have x1:=(h1.alloc _ |>.alloc _ |>.alloc _ |>.alloc _).keep hb1
  refine (filled_any R K hR (by omega) 107 #[.pointer (some ⟨w.heap.size,0,none⟩),.pointer (some ⟨w.heap.size+1,0,none⟩)] (fun i j=>add (ix xs (i*K+j)) (ix ys (i*K+j))) _ cf_add ?_).mono ?_
  ·intro i j hi hj W hW
   exact addCell_any _ _ R K _ _ _ _ _ _ _ _ xs ys hR hK W (B2.keep hW) (B3.keep hW) (x0.keep hW) (x1.keep hW) i j hi hj
  ·rintro e w2 ⟨a2,k2,b2,rfl,hn2,hi2,hb2⟩
   have C4:=B4.keep hb2
   have C4c:=C4.cell
   have C4f:=C4.thawed
   have C4z:=C4.lt
   have C4k:=lt_add C4z
   go_wp2
   refine bodyPost_ret (v:=.tuple #[.agg #[.int .i64 R,.int .i64 K,.slice a2 (R*K:Nat) k2],.nilIface]) (by simp [results,Tryz.results91,go_sem,C4c]) rfl ⟨_,rfl,MatNew.mk (fun h=>by have:=hn2 h;omega) (hi2.set3 (fun h=>by have:=hn2 h;omega) _ _ _),(Below.x2 hb2 hb1)⟩
 ·rw [orNone_bad hf]
  obtain ⟨a0,n0,k0,b0,o0,rfl,h0⟩:=ha
  obtain ⟨a1,n1,k1,b1,o1,rfl,h1⟩:=hb
  by_cases hc:firstFault [ma,mb]=0
  ·have hE:errV (firstFault [ma,mb])=.nilIface:=errV_nil hc
   have hor:((ma.rows != mb.rows)=true∨(ma.rows != mb.rows)=false∧(ma.cols != mb.cols)=true)∧lossFault ma mb=2:=by
    unfold lossFault at *
    rw [if_pos hc] at *
    by_cases h:ma.rows=mb.rows
    ·by_cases h':ma.cols=mb.cols
     ·rw [if_pos ⟨h,h'⟩] at hf;omega
     ·exact ⟨Or.inr ⟨by simp [h],by simp [h']⟩,if_neg (fun h2=>h' h2.2)⟩
    ·exact ⟨Or.inl (by simp [h]),if_neg (fun h2=>h h2.1)⟩
   obtain ⟨hor,hm⟩:=hor
   rw [hm,errV_err (by omega)]
   clear hm hc hf
   rcases hor with hr|⟨hr,hc⟩
   all_goals
    go_enter Tryz.func91,Tryz.ntmps91
    go_wp2_with fail
    refine (check_any _ _ _ _ _ [ma,mb] _ (mats2 (Box.new' _ _ _ _ (by simp)) (h0.alloc _ |>.alloc _ |>.alloc _ |>.alloc _) (h1.alloc _ |>.alloc _ |>.alloc _ |>.alloc _))).mono ?_
    rintro e w1 ⟨rfl,hb1⟩
    have B2:=(((Box.new' _ w.heap.size _ _ (by simp)).alloc _).alloc _ |>.alloc _).keep hb1
    have B2c:=B2.cell
    have B2f:=B2.thawed
    have B2z:=B2.lt
    have B2k:=lt_add B2z
    have B3:=((Box.new' _ (w.heap.size+1) _ _ (by simp)).alloc _ |>.alloc _).keep hb1
    have B3c:=B3.cell
    have B3f:=B3.thawed
    have B3z:=B3.lt
    have B3k:=lt_add B3z
    have B4:=((Box.new' _ (w.heap.size+1+1) _ _ (by simp)).alloc _).keep hb1
    have B4c:=B4.cell
    have B4f:=B4.thawed
    have B4z:=B4.lt
    have B4k:=lt_add B4z
    go_wp2
    exact bodyPost_ret (v:=.tuple #[.agg #[.int .i64 0,.int .i64 0,.slice none 0 0],.iface 36 (.int .i64 2)]) (by simp [results,Tryz.results91,go_sem,B4c]) rfl ⟨_,rfl,none_new _ _,(Below.x1 hb1)⟩
  ·have hE:errV (firstFault [ma,mb])=.iface 36 (.int .i64 (firstFault [ma,mb])):=errV_err hc
   have hm:lossFault ma mb=firstFault [ma,mb]:=by unfold lossFault;rw [if_neg hc]
   rw [hm,hE]
   clear hm hc hf
   go_enter Tryz.func91,Tryz.ntmps91
   go_wp2_with fail
   refine (check_any _ _ _ _ _ [ma,mb] _ (mats2 (Box.new' _ _ _ _ (by simp)) (h0.alloc _ |>.alloc _ |>.alloc _ |>.alloc _) (h1.alloc _ |>.alloc _ |>.alloc _ |>.alloc _))).mono ?_
   rintro e w1 ⟨rfl,hb1⟩
   have B4:=((Box.new' _ (w.heap.size+1+1) _ _ (by simp)).alloc _).keep hb1
   have B4c:=B4.cell
   have B4f:=B4.thawed
   have B4z:=B4.lt
   have B4k:=lt_add B4z
   go_wp2
   exact bodyPost_ret (v:=.tuple #[.agg #[.int .i64 0,.int .i64 0,.slice none 0 0],.iface 36 (.int .i64 (firstFault [ma,mb]))]) (by simp [results,Tryz.results91,go_sem,B4c]) rfl ⟨_,rfl,none_new _ _,(Below.x1 hb1)⟩
set_option maxRecDepth 100000 in
set_option maxHeartbeats 1000000 in
theorem matSums_any (ma:Mat) (va:Value) (w:World) (ha:MatAt w va ma) :
  Calls Tryz.prog 149 #[va] w fun e w'=>∃ v,e=.returned (.tuple #[v,errV ma.fault])∧MatNew w.heap.size w' v (orNone ma.fault (matSums ma))∧Below w.heap.size w w':=by
 by_cases hf:ma.fault=0
 ·rw [orNone_ok hf,errV_nil hf]
  obtain ⟨R,K,eR,eK,hR,hK,hla,hea⟩:=matFault_ok hf
  obtain ⟨mar,mac,xs⟩:=ma
  dsimp only at eR eK hla
  subst eR eK
  unfold matSums
  simp only [Int.toNat_natCast]
  clear hea
  obtain ⟨a0,n0,k0,b0,o0,rfl,h0⟩:=ha
  obtain rfl:R*K=n0:=by rw [← hla];exact h0.len
  dsimp only at h0
  have hE:errV (matFault R K xs)=.nilIface:=errV_nil hf
  clear hf hla
  go_enter Tryz.func149,Tryz.ntmps149
  go_wp2_with fail
  refine (matCheck_any _ _ _ _ _ _ _ xs _ (h0.alloc _ |>.alloc _)).mono ?_
  rintro e w1 ⟨rfl,hb1⟩
  have B2:=((Box.new' _ w.heap.size _ _ (by simp)).alloc _).keep hb1
  have B2c:=B2.cell
  have B2f:=B2.thawed
  have B2z:=B2.lt
  have B2k:=lt_add B2z
  have B4:=(Box.new' _ (w.heap.size+1) _ _ (by simp)).keep hb1
  have B4c:=B4.cell
  have B4f:=B4.thawed
  have B4z:=B4.lt
  have B4k:=lt_add B4z
  have z1:=hb1.size
  simp at z1
  go_wp2_with fail
  have x0:=(h0.alloc _ |>.alloc _).keep hb1
  refine (filled_any 1 K (by omega) (by omega) 153 #[.pointer (some ⟨w.heap.size,0,none⟩)] (fun _ j=>sumTo (fun i=>ix xs (i*K+j)) R) _ cf_sums ?_).mono ?_
  ·intro i j hi hj W hW
   exact sumsCell_any _ R K _ _ _ _ xs hR hK W (B2.keep hW) (x0.keep hW) i j hj
  ·rintro e w2 ⟨a2,k2,b2,rfl,hn2,hi2,hb2⟩
   have C4:=B4.keep hb2
   have C4c:=C4.cell
   have C4f:=C4.thawed
   have C4z:=C4.lt
   have C4k:=lt_add C4z
   go_wp2
   refine bodyPost_ret (v:=.tuple #[.agg #[.int .i64 1,.int .i64 K,.slice a2 (1*K:Nat) k2],.nilIface]) (by simp [results,Tryz.results149,go_sem,C4c]) rfl ⟨_,rfl,MatNew.mk (fun h=>by have:=hn2 h;omega) (hi2.set3 (fun h=>by have:=hn2 h;omega) _ _ _),(Below.x2 hb2 hb1)⟩
 ·rw [orNone_bad hf,errV_err hf]
  obtain ⟨a0,n0,k0,b0,o0,rfl,h0⟩:=ha
  have hE:errV (matFault ma.rows ma.cols ma.cells)=.iface 36 (.int .i64 ma.fault):=errV_err hf
  clear hf
  go_enter Tryz.func149,Tryz.ntmps149
  go_wp2_with fail
  refine (matCheck_any _ _ _ _ _ _ _ ma.cells _ (h0.alloc _ |>.alloc _)).mono ?_
  rintro e w1 ⟨rfl,hb1⟩
  have B4:=(Box.new' _ (w.heap.size+1) _ _ (by simp)).keep hb1
  have B4c:=B4.cell
  have B4f:=B4.thawed
  have B4z:=B4.lt
  have B4k:=lt_add B4z
  go_wp2
  exact bodyPost_ret (v:=.tuple #[.agg #[.int .i64 0,.int .i64 0,.slice none 0 0],.iface 36 (.int .i64 ma.fault)]) (by simp [results,Tryz.results149,go_sem,B4c]) rfl ⟨_,rfl,none_new _ _,(Below.x1 hb1)⟩
end Go.Proofs.YtchngeagnlngaaaGreatDoor
end
section
namespace Gal
open Go Go.RowKit
def Form.bat:Form Bat:=(Form.mat.and Form.mat).as fun x=>⟨x.1,x.2⟩
def BatAt (w:World) (v:Value) (b:Bat):Prop:=∃ a n cap p o a' n' cap' p' o',v=.agg #[.int .i64 b.I.rows,.int .i64 b.I.cols,.slice a n cap,.int .i64 b.W.rows,.int .i64 b.W.cols,.slice a' n' cap']∧IntsAt w a n cap p o b.I.cells∧IntsAt w a' n' cap' p' o' b.W.cells
theorem bat_reads {w:World} {F:Nat→Prop} {cs:List Value} {d:Bat} (h:Form.bat.reads w F cs d) :
  ∃ a n cap b o a' n' cap' b' o',cs=[.int .i64 d.I.rows,.int .i64 d.I.cols,.slice a n cap,.int .i64 d.W.rows,.int .i64 d.W.cols,.slice a' n' cap']∧(0<n→F b)∧IntsAt w a n cap b o d.I.cells∧(0<n'→F b')∧IntsAt w a' n' cap' b' o' d.W.cells:=by
 obtain ⟨⟨W,B⟩,⟨c1,d1,rfl,⟨a,n,cap,b,o,rfl,hF,x0⟩,⟨a',n',cap',b',o',rfl,hF',x1⟩⟩,rfl⟩:=h
 exact ⟨a,n,cap,b,o,a',n',cap',b',o',rfl,hF,x0,hF',x1⟩
theorem reads_bat {w:World} {F:Nat→Prop} {d:Bat} {a a':Option Addr} {n n' cap cap' b b' o o':Nat} (hF:0<n→F b) (x0:IntsAt w a n cap b o d.I.cells) (hF':0<n'→F b') (x1:IntsAt w a' n' cap' b' o' d.W.cells) :
  Form.bat.reads w F [.int .i64 d.I.rows,.int .i64 d.I.cols,.slice a n cap,.int .i64 d.W.rows,.int .i64 d.W.cols,.slice a' n' cap'] d:=
 ⟨(d.I,d.W),⟨_,_,rfl,⟨a,n,cap,b,o,rfl,hF,x0⟩,⟨a',n',cap',b',o',rfl,hF',x1⟩⟩,rfl⟩
end Gal
namespace Go.Proofs.YtchngeagnlngaaaGreatDoor
open Go.RowKit Gal
set_option maxRecDepth 100000
set_option maxHeartbeats 2000000
theorem batchCheck_any (d:Bat) (v:Value) (w:World) (h:BatAt w v d):Calls Tryz.prog 96 #[v] w fun e w'=>e=.returned (errV d.fault)∧Below w.heap.size w w':=by
 obtain ⟨a,n,k,b,o,a',n',k',b',o',rfl,x0,x1⟩:=h
 by_cases h1:d.I.fault=0
 ·have HE1:Hid (errV (matFault d.I.rows d.I.cols d.I.cells)=.nilIface):=Lib.hid (errV_nil h1)
  by_cases h2:d.W.fault=0
  ·have HE2:Hid (errV (matFault d.W.rows d.W.cols d.W.cells)=.nilIface):=Lib.hid (errV_nil h2)
   have HF:Hid (d.fault=if d.I.rows≠d.W.rows∨d.I.rows<1 then 2 else 0):=Lib.hid (by unfold Bat.fault;rw [if_neg (by simp [h1]),if_neg (by simp [h2])])
   clear h1 h2
   rw [HF.out]
   by_cases h3:d.I.rows=d.W.rows
   ·have q3:(d.I.rows != d.W.rows)=false:=by simp [h3]
    by_cases h4:d.I.rows<1
    ·rw [if_pos (Or.inr h4),errV_err (by decide)]
     clear h3
     go_enter Tryz.func96,Tryz.ntmps96
     go_wp2_with fail
     refine (matCheck_any _ _ _ _ _ _ _ d.I.cells _ (x0.alloc _)).mono ?_
     rw [HE1.out]
     rintro e w1 ⟨rfl,hb1⟩
     have B1:=((show Box _ w.heap.size [.int .i64 d.I.rows,.int .i64 d.I.cols,.slice a n k,.int .i64 d.W.rows,.int .i64 d.W.cols,.slice a' n' k'] 43 from Box.x0)).keep hb1
     have B1c:=B1.cell
     have B1f:=B1.thawed
     have B1z:=B1.lt
     have B1k:=lt_add B1z
     have hkw1:Below w.heap.size w w1:=(Below.x1 hb1)
     replace x1:=x1.keep hkw1
     have hsw1:=hkw1.size
     go_wp2_with fail
     refine (matCheck_any _ _ _ _ _ _ _ d.W.cells _ x1).mono ?_
     rw [HE2.out]
     rintro e w2 ⟨rfl,hb2⟩
     have hkw2:Below w1.heap.size w1 w2:=(Below.x1 hb2)
     replace B1:=B1.keep hkw2
     replace B1c:=B1.cell
     replace B1f:=B1.thawed
     replace B1z:=B1.lt
     replace B1k:=lt_add B1z
     have hsw2:=hkw2.size
     go_wp2
     go_ret
     exact ⟨rfl,(Below.x2 hb2 hb1)⟩
    ·rw [if_neg (by rintro (q|q);exact q h3;exact h4 q),errV_nil rfl]
     clear h3
     go_enter Tryz.func96,Tryz.ntmps96
     go_wp2_with fail
     refine (matCheck_any _ _ _ _ _ _ _ d.I.cells _ (x0.alloc _)).mono ?_
     rw [HE1.out]
     rintro e w1 ⟨rfl,hb1⟩
     have B1:=((show Box _ w.heap.size [.int .i64 d.I.rows,.int .i64 d.I.cols,.slice a n k,.int .i64 d.W.rows,.int .i64 d.W.cols,.slice a' n' k'] 43 from Box.x0)).keep hb1
     have B1c:=B1.cell
     have B1f:=B1.thawed
     have B1z:=B1.lt
     have B1k:=lt_add B1z
     have hkw1:Below w.heap.size w w1:=(Below.x1 hb1)
     replace x1:=x1.keep hkw1
     have hsw1:=hkw1.size
     go_wp2_with fail
     refine (matCheck_any _ _ _ _ _ _ _ d.W.cells _ x1).mono ?_
     rw [HE2.out]
     rintro e w2 ⟨rfl,hb2⟩
     have hkw2:Below w1.heap.size w1 w2:=(Below.x1 hb2)
     replace B1:=B1.keep hkw2
     replace B1c:=B1.cell
     replace B1f:=B1.thawed
     replace B1z:=B1.lt
     replace B1k:=lt_add B1z
     have hsw2:=hkw2.size
     go_wp2
     go_ret
     exact ⟨rfl,(Below.x2 hb2 hb1)⟩
   ·have q3:(d.I.rows != d.W.rows)=true:=by simp [h3]
    rw [if_pos (Or.inl h3),errV_err (by decide)]
    clear h3
    go_enter Tryz.func96,Tryz.ntmps96
    go_wp2_with fail
    refine (matCheck_any _ _ _ _ _ _ _ d.I.cells _ (x0.alloc _)).mono ?_
    rw [HE1.out]
    rintro e w1 ⟨rfl,hb1⟩
    have B1:=((show Box _ w.heap.size [.int .i64 d.I.rows,.int .i64 d.I.cols,.slice a n k,.int .i64 d.W.rows,.int .i64 d.W.cols,.slice a' n' k'] 43 from Box.x0)).keep hb1
    have B1c:=B1.cell
    have B1f:=B1.thawed
    have B1z:=B1.lt
    have B1k:=lt_add B1z
    have hkw1:Below w.heap.size w w1:=(Below.x1 hb1)
    replace x1:=x1.keep hkw1
    have hsw1:=hkw1.size
    go_wp2_with fail
    refine (matCheck_any _ _ _ _ _ _ _ d.W.cells _ x1).mono ?_
    rw [HE2.out]
    rintro e w2 ⟨rfl,hb2⟩
    have hkw2:Below w1.heap.size w1 w2:=(Below.x1 hb2)
    replace B1:=B1.keep hkw2
    replace B1c:=B1.cell
    replace B1f:=B1.thawed
    replace B1z:=B1.lt
    replace B1k:=lt_add B1z
    have hsw2:=hkw2.size
    go_wp2
    go_ret
    exact ⟨rfl,(Below.x2 hb2 hb1)⟩
  ·have HE2:Hid (errV (matFault d.W.rows d.W.cols d.W.cells)=.iface 36 (.int .i64 d.W.fault)):=Lib.hid (errV_err h2)
   have HF:Hid (errV d.fault=.iface 36 (.int .i64 d.W.fault)):=Lib.hid (by unfold Bat.fault;rw [if_neg (by simp [h1]),if_pos h2];exact errV_err h2)
   clear h1 h2
   rw [HF.out]
   go_enter Tryz.func96,Tryz.ntmps96
   go_wp2_with fail
   refine (matCheck_any _ _ _ _ _ _ _ d.I.cells _ (x0.alloc _)).mono ?_
   rw [HE1.out]
   rintro e w1 ⟨rfl,hb1⟩
   have B1:=((show Box _ w.heap.size [.int .i64 d.I.rows,.int .i64 d.I.cols,.slice a n k,.int .i64 d.W.rows,.int .i64 d.W.cols,.slice a' n' k'] 43 from Box.x0)).keep hb1
   have B1c:=B1.cell
   have B1f:=B1.thawed
   have B1z:=B1.lt
   have B1k:=lt_add B1z
   have hkw1:Below w.heap.size w w1:=(Below.x1 hb1)
   replace x1:=x1.keep hkw1
   have hsw1:=hkw1.size
   go_wp2_with fail
   refine (matCheck_any _ _ _ _ _ _ _ d.W.cells _ x1).mono ?_
   rw [HE2.out]
   rintro e w2 ⟨rfl,hb2⟩
   go_wp2
   go_ret
   exact ⟨rfl,(Below.x2 hb2 hb1)⟩
 ·have HE1:Hid (errV (matFault d.I.rows d.I.cols d.I.cells)=.iface 36 (.int .i64 d.I.fault)):=Lib.hid (errV_err h1)
  have HF:Hid (errV d.fault=.iface 36 (.int .i64 d.I.fault)):=Lib.hid (by unfold Bat.fault;rw [if_pos h1];exact errV_err h1)
  clear h1
  rw [HF.out]
  go_enter Tryz.func96,Tryz.ntmps96
  go_wp2_with fail
  refine (matCheck_any _ _ _ _ _ _ _ d.I.cells _ (x0.alloc _)).mono ?_
  rw [HE1.out]
  rintro e w1 ⟨rfl,hb1⟩
  go_wp2
  go_ret
  exact ⟨rfl,(Below.x1 hb1)⟩
theorem batchSizes_bad (r p:Int) (w:World) (hf:sizesFault r p≠0) :
  Calls Tryz.prog 97 #[.int .i64 r,.int .i64 p] w fun e w'=>e=.returned (.tuple #[.slice none 0 0,.iface 36 (.int .i64 (sizesFault r p))])∧w=w':=by
 by_cases h1:r<1∨24<r∨p<1∨12<p
 ·have h0:sizesFault r p=1:=if_pos h1
  rw [h0]
  clear hf h0
  go_enter Tryz.func97,Tryz.ntmps97
  by_cases q1:r<1
  ·go_wp2
   go_ret2
   exact ⟨rfl,rfl⟩
  ·by_cases q2:24<r
   ·go_wp2
    go_ret2
    exact ⟨rfl,rfl⟩
   ·by_cases q3:p<1
    ·go_wp2
     go_ret2
     exact ⟨rfl,rfl⟩
    ·have q4:12<p:=by omega
     go_wp2
     go_ret2
     exact ⟨rfl,rfl⟩
 ·have h2:r<p:=by
   rcases Int.lt_or_le r p with h|h
   ·exact h
   ·exact absurd (show sizesFault r p=0 by unfold sizesFault;rw [if_neg h1,if_neg (by omega)]) hf
  have h0:sizesFault r p=2:=by unfold sizesFault;rw [if_neg h1,if_pos h2]
  rw [h0]
  have q1:¬ r<1:=by omega
  have q2:¬ 24<r:=by omega
  have q3:¬ p<1:=by omega
  have q4:¬ 12<p:=by omega
  clear hf h0 h1
  go_enter Tryz.func97,Tryz.ntmps97
  go_wp2
  go_ret2
  exact ⟨rfl,rfl⟩
end Go.Proofs.YtchngeagnlngaaaGreatDoor
end
section
namespace Gal
open Go Go.RowKit
theorem own_one {α:Type} {f:Form α} {E:TypeId} {w:World} {base b:Nat} {F:Nat→Prop} {cs:List Value} {x:α} (h:Box w b cs E) (hr:f.reads w (fun c=>F c∧c≠b) cs x) (hb:base≤b):OwnRow f E w base F (.slice (some ⟨b,0,none⟩) 1 1) [x]:=by
 have hl:=f.len hr
 refine ⟨cs,⟨by simp [hl],Or.inr ⟨b,1,cs.toArray,rfl,hb,h,Nat.le_refl _,by unfold maxLen;omega,by simp [hl],by show List.take (1*f.size) cs=cs;rw [Nat.one_mul,← hl];simp⟩⟩,Flat.single (f.wide (fun c hc _=>⟨hc.1,fun e=>hc.2 ?_⟩) hr)⟩
 simp [Value.ownBlock] at e
 exact e.symm
theorem IntsAt.grown {w w':World} {a:Option Addr} {n cap b off:Nat} {xs:List Int} {row:Option Nat} (h:IntsAt w a n cap b off xs) (hg:w.grownBy w' row) (hne:0<n→some b≠row):IntsAt w' a n cap b off xs:=
 ⟨h.len,h.le,h.maxc,h.ptr,fun hn=>Nat.lt_of_lt_of_le (h.lt hn) hg.size,fun i hi=>(World.cell?_of_block (a:=⟨b,off+i,none⟩) (hg.block b (h.lt (by omega)) (hne (by omega)))).trans (h.cell i hi)⟩
end Gal
end
