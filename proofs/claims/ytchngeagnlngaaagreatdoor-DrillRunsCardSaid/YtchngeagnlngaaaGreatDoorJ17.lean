/- Texts joined: Lay4, Lay5. -/
import Derived.Test.YtchngeagnlngaaaGreatDoorJ16
import Derived.Test.YtchngeagnlngaaaGreatDoorJ01
import Derived.Test.YtchngeagnlngaaaGreatDoorJ09
import Derived.Test.YtchngeagnlngaaaGreatDoorJ13
import Derived.Deep.RegionLaw
import Derived.BigRegion
import Derived.Test.YtchngeagnlngaaaGreatDoorJ10
import Derived.BigQuiet
set_option linter.unusedVariables false
set_option linter.unusedSimpArgs false
section
namespace Go.Proofs.YtchngeagnlngaaaGreatDoor
open Go.RowKit Gal
attribute [local go_sem ↓] Go.wp_at_zero Go.wp_at_succ
theorem mat_cols {m:Mat} (h:m.fault=0):0≤m.cols∧m.cols≤12∧0≤m.rows∧m.rows≤24:=by
 obtain ⟨R,K,e1,e2,h1,h2,_,_⟩:=matFault_ok h
 omega
set_option maxRecDepth 100000
set_option maxHeartbeats 1000000
theorem layEnter_any (l:Lay) (m:Mat) (v u:Value) (w:World) (h:LayAt w v l) (hu:MatAt w u m) :
  Calls Tryz.prog 101 #[v,u] w fun e w'=>e=.returned (.tuple #[.int .i64 (okOr (l.goFault m) (l.wide m.cols)),errV (l.goFault m)])∧Below w.heap.size w w':=by
 obtain ⟨a,n,k,b,o,a',n',k',b',o',rfl,x0,x1⟩:=h
 obtain ⟨a2,n2,k2,b2,o2,rfl,x2⟩:=hu
 by_cases fl:l.fault=0
 ·have hE:errV l.fault=.nilIface:=errV_nil fl
  by_cases fm:m.fault=0
  ·have hE1:errV (matFault m.rows m.cols m.cells)=.nilIface:=errV_nil fm
   rw [Lay.goFault_wide fm]
   obtain ⟨c0,c1,_,_⟩:=mat_cols fm
   clear fl fm
   go_enter Tryz.func101,Tryz.ntmps101
   go_wp2_with fail
   refine (layCheck_any l _ _ ⟨_,_,_,_,_,_,_,_,_,_,rfl,x0.alloc _ |>.alloc _,x1.alloc _ |>.alloc _⟩).mono ?_
   rintro e w1 ⟨rfl,hb1⟩
   have B0:=((Box.new w [.int .i64 l.kind,.int .i64 l.W.rows,.int .i64 l.W.cols,.slice a n k,.int .i64 l.B.rows,.int .i64 l.B.cols,.slice a' n' k'] 84).alloc _).keep hb1
   have B0c:=B0.cell
   have B0f:=B0.thawed
   have B0z:=B0.lt
   have B0k:=lt_add B0z
   have B1:=(Box.new' _ (w.heap.size+1) [.int .i64 m.rows,.int .i64 m.cols,.slice a2 n2 k2] 41 (by simp)).keep hb1
   have B1c:=B1.cell
   have B1f:=B1.thawed
   have B1z:=B1.lt
   have B1k:=lt_add B1z
   have hkw1:Below w.heap.size w w1:=(Below.x1 hb1)
   replace x0:=x0.keep hkw1
   replace x1:=x1.keep hkw1
   replace x2:=x2.keep hkw1
   go_wp2_with fail
   refine (matCheck_any _ _ _ _ _ _ _ m.cells _ x2).mono ?_
   rintro e w2 ⟨rfl,hb2⟩
   have hkw2:Below w1.heap.size w1 w2:=(Below.x1 hb2)
   replace B0:=B0.keep hkw2
   replace B0c:=B0.cell
   replace B0f:=B0.thawed
   replace B0z:=B0.lt
   replace B0k:=lt_add B0z
   replace B1:=B1.keep hkw2
   replace B1c:=B1.cell
   replace B1f:=B1.thawed
   replace B1z:=B1.lt
   replace B1k:=lt_add B1z
   replace x0:=x0.keep hkw2
   replace x1:=x1.keep hkw2
   go_wp2_with fail
   refine (layWide_any l m.cols _ _ ⟨_,_,_,_,_,_,_,_,_,_,rfl,x0,x1⟩ (by omega)).mono ?_
   rintro e w3 ⟨rfl,hb3⟩
   go_wp2
   go_ret2
   exact ⟨rfl,(by repeat (first|(with_reducible first|exact Below.refl _ _|refine Below.al ?_ _|refine Below.drN ?_ _|refine Below.drew ?_|refine Below.sx ?_ _|refine Below.go ?_ hb3|refine Below.go ?_ hb2|refine Below.go ?_ hb1)|exact Below.refl _ _))⟩
  ·have hE1:errV (matFault m.rows m.cols m.cells)=.iface 36 (.int .i64 m.fault):=errV_err fm
   have hg:l.goFault m=m.fault:=by unfold Lay.goFault;rw [if_neg (fun h=>h fl),if_pos fm]
   rw [hg,okOr_bad fm,errV_err fm]
   clear fl hg fm
   go_enter Tryz.func101,Tryz.ntmps101
   go_wp2_with fail
   refine (layCheck_any l _ _ ⟨_,_,_,_,_,_,_,_,_,_,rfl,x0.alloc _ |>.alloc _,x1.alloc _ |>.alloc _⟩).mono ?_
   rintro e w1 ⟨rfl,hb1⟩
   have B1:=(Box.new' _ (w.heap.size+1) [.int .i64 m.rows,.int .i64 m.cols,.slice a2 n2 k2] 41 (by simp)).keep hb1
   have B1c:=B1.cell
   have B1f:=B1.thawed
   have B1z:=B1.lt
   have B1k:=lt_add B1z
   have hkw1:Below w.heap.size w w1:=(Below.x1 hb1)
   replace x2:=x2.keep hkw1
   go_wp2_with fail
   refine (matCheck_any _ _ _ _ _ _ _ m.cells _ x2).mono ?_
   rintro e w2 ⟨rfl,hb2⟩
   go_wp2
   go_ret2
   exact ⟨rfl,(Below.x2 hb2 hb1)⟩
 ·have hE:errV l.fault=.iface 36 (.int .i64 l.fault):=errV_err fl
  have hg:l.goFault m=l.fault:=by unfold Lay.goFault;rw [if_pos fl]
  rw [hg,okOr_bad fl,errV_err fl]
  clear hg fl
  go_enter Tryz.func101,Tryz.ntmps101
  go_wp2_with fail
  refine (layCheck_any l _ _ ⟨_,_,_,_,_,_,_,_,_,_,rfl,x0.alloc _ |>.alloc _,x1.alloc _ |>.alloc _⟩).mono ?_
  rintro e w1 ⟨rfl,hb1⟩
  go_wp2
  go_ret2
  exact ⟨rfl,(Below.x1 hb1)⟩
theorem pad_ints {w:World} {b n:Nat} {g:Nat→Int} {t:TypeId} (h:Box w b ((pad g n n).map (Value.int .i64)) t) (hl:n≤maxLen):IntsAt w (some ⟨b,0,none⟩) n n b 0 (upto g n):=by
 rw [pad_full] at h
 have:=ints_box h (by rw [upto_length];exact hl)
 rw [upto_length] at this
 exact this
theorem each_any (r c:Int) (a0:Option Addr) (n k0:Nat) (hn:n≤576) (fid:FuncId) (cs:Array Value) (g:Nat→Int) (w:World)
  (hcf:∀ (vs:Array Value) (W:World),(callFunc fid vs).run Tryz.prog W=.ok (.enter fid vs) W)
  (hg:∀ (i:Nat),i<n→∀ W,Below w.heap.size w W→Calls Tryz.prog fid (#[.int .i64 i]++cs) W fun e W'=>e=.returned (.int .i64 (g i))∧∃ m,W'=W.drewN m) :
  Calls Tryz.prog 154 #[.agg #[.int .i64 r,.int .i64 c,.slice a0 n k0],.func (.func fid) #[] cs] w fun e w'=>
   ∃ b,e=.returned (.agg #[.int .i64 r,.int .i64 c,.slice (some ⟨b,0,none⟩) n n])∧w.heap.size≤b∧IntsAt w' (some ⟨b,0,none⟩) n n b 0 (upto g n)∧Below w.heap.size w w':=by
 have HG:=Lib.hid hg
 clear hg
 obtain ⟨i0,hi,hz0,hz1,hz2⟩:=info_parts info_int
 have hmk:=fun W=>run_make_rowN (P:=Tryz.prog) 29 3 i0 _ Tryz.underlying29 hi hz0 .i64 .i64 n n (n:Int) (n:Int) rfl rfl (Nat.le_refl _) (by rw [hz2];omega) (by omega) W
 rw [hz1,Nat.mul_one] at hmk
 have hmc:(madeCells (Value.int .i64 0).cells n)=((zeros n).map (Value.int .i64)).toArray:=by
  apply Array.toList_inj.1
  show (madeCells #[Value.int .i64 0] n).toList=_
  rw [toList_madeCells_one]
  simp [zeros]
 rw [hmc] at hmk
 clear hmc
 go_enter Tryz.func154,Tryz.ntmps154
 go_wp2_with fail
 go_region
 ·skip
  go_wp2_with fail
  go_loopw [19,6] (fun i _ wr=>∃ k:Nat,k≤n∧i=.int .i64 k∧Below w.heap.size w wr∧Box wr (w.heap.size+1) [.int .i64 0,.int .i64 0,.slice none 0 0] 41∧Box wr (w.heap.size+1+1+1) [.int .i64 r,.int .i64 c,.slice (some ⟨w.heap.size+1+1,0,none⟩) n n] 41 ∧
    Box wr (w.heap.size+1+1) ((pad g n k).map (Value.int .i64)) 3) (fun i _ _=>n - (intOf i).toNat)
  case atStart=>
   refine ⟨0,Nat.zero_le _,rfl,Below.x0,?_,?_,?_⟩
   ·exact ((Box.new' _ _ _ _ (by simp)).alloc _).alloc _
   ·exact Box.new' _ _ _ _ (by simp)
   ·rw [pad_zero]
    exact (Box.new' _ _ _ _ (by simp)).alloc _
  case round=>
   obtain ⟨k,hk,rfl,hbr,B0,Bm,Bc⟩:=hrel
   have B0c:=B0.cell
   have B0f:=B0.thawed
   have B0z:=B0.lt
   have Bmc:=Bm.cell
   have Bmz:=Bm.lt
   have Bcz:=Bc.lt
   by_cases hlt:k<n
   ·have cc:=Bc.icell (k:=k) (by rw [pad_length];exact hlt)
    have cf:=Bc.thawed k
    go_wp2_with fail
    go_region_law ((go_simp;refine (HG.out k hlt _ ?_).mono ?_;(first|exact hbr|exact hbr.drew|exact ((Below.y0 hbr)));rintro e W' ⟨rfl,nd,rfl⟩))
    all_goals (
     go_wp2
     go_roundw
     case rel=>exact ⟨k+1,by omega,by go_num,(Below.y0 hbr),(by repeat (first|exact B0|refine Box.drewN ?_ _|refine Box.drew ?_|refine Box.alloc ?_ _|refine Box.far ?_ (by dsimp only;omega) _)),(by repeat (first|exact Bm|refine Box.drewN ?_ _|refine Box.drew ?_|refine Box.alloc ?_ _|refine Box.far ?_ (by dsimp only;omega) _)),by rw [← pad_set hlt];exact (by repeat (first|exact Bc|refine Box.drewN ?_ _|refine Box.drew ?_|refine Box.iset ?_ _ _))⟩
     case measure=>simp [intOf];omega)
   ·obtain rfl:k=n:=by omega
    go_wp2
    refine bodyPost_ret (v:=.agg #[.int .i64 r,.int .i64 c,.slice (some ⟨w.heap.size+1+1,0,none⟩) k k]) (by simp [results,Tryz.results154,go_sem,B0c]) rfl ⟨w.heap.size+1+1,rfl,by omega,?_,(Below.y0 hbr)⟩
    exact (pad_ints Bc (by unfold maxLen;omega)).set3 (fun _=>by omega) _ _ _
 ·skip
  go_wp2_with fail
  go_loopw [19,6] (fun i _ wr=>∃ k:Nat,k≤n∧i=.int .i64 k∧Below w.heap.size w wr∧Box wr (w.heap.size+1) [.int .i64 0,.int .i64 0,.slice none 0 0] 41∧Box wr (w.heap.size+1+1) [.int .i64 r,.int .i64 c,.slice (some ⟨w.heap.size+1+1+1,0,none⟩) n n] 41 ∧
    Box wr (w.heap.size+1+1+1) ((pad g n k).map (Value.int .i64)) 3) (fun i _ _=>n - (intOf i).toNat)
  case atStart=>
   refine ⟨0,Nat.zero_le _,rfl,Below.x0,?_,?_,?_⟩
   ·exact ((Box.new' _ _ _ _ (by simp)).alloc _).alloc _
   ·exact (Box.new' _ _ _ _ (by simp)).alloc _
   ·rw [pad_zero]
    exact Box.new' _ _ _ _ (by simp)
  case round=>
   obtain ⟨k,hk,rfl,hbr,B0,Bm,Bc⟩:=hrel
   have B0c:=B0.cell
   have B0f:=B0.thawed
   have B0z:=B0.lt
   have Bmc:=Bm.cell
   have Bmz:=Bm.lt
   have Bcz:=Bc.lt
   by_cases hlt:k<n
   ·have cc:=Bc.icell (k:=k) (by rw [pad_length];exact hlt)
    have cf:=Bc.thawed k
    go_wp2_with fail
    go_region_law ((go_simp;refine (HG.out k hlt _ ?_).mono ?_;(first|exact hbr|exact hbr.drew|exact ((Below.y0 hbr)));rintro e W' ⟨rfl,nd,rfl⟩))
    all_goals (
     go_wp2
     go_roundw
     case rel=>exact ⟨k+1,by omega,by go_num,(Below.y0 hbr),(by repeat (first|exact B0|refine Box.drewN ?_ _|refine Box.drew ?_|refine Box.alloc ?_ _|refine Box.far ?_ (by dsimp only;omega) _)),(by repeat (first|exact Bm|refine Box.drewN ?_ _|refine Box.drew ?_|refine Box.alloc ?_ _|refine Box.far ?_ (by dsimp only;omega) _)),by rw [← pad_set hlt];exact (by repeat (first|exact Bc|refine Box.drewN ?_ _|refine Box.drew ?_|refine Box.iset ?_ _ _))⟩
     case measure=>simp [intOf];omega)
   ·obtain rfl:k=n:=by omega
    go_wp2
    refine bodyPost_ret (v:=.agg #[.int .i64 r,.int .i64 c,.slice (some ⟨w.heap.size+1+1+1,0,none⟩) k k]) (by simp [results,Tryz.results154,go_sem,B0c]) rfl ⟨w.heap.size+1+1+1,rfl,by omega,?_,(Below.y0 hbr)⟩
    exact (pad_ints Bc (by unfold maxLen;omega)).set3 (fun _=>by omega) _ _ _
end Go.Proofs.YtchngeagnlngaaaGreatDoor
end
section
namespace Go.Proofs.YtchngeagnlngaaaGreatDoor
open Go.RowKit Gal
set_option maxRecDepth 100000
set_option maxHeartbeats 1000000
theorem cf_more (vs:Array Value) (W:World):(callFunc 155 vs).run Tryz.prog W=.ok (.enter 155 vs) W:=by kernel_rfl
theorem cf_relu (vs:Array Value) (W:World):(callFunc 162 vs).run Tryz.prog W=.ok (.enter 162 vs) W:=by kernel_rfl
theorem cf_scale (vs:Array Value) (W:World):(callFunc 166 vs).run Tryz.prog W=.ok (.enter 166 vs) W:=by kernel_rfl
theorem moreCell_any (p q:Nat) (r r' c':Int) (K:Nat) (a a':Option Addr) (n k0 b o n' k0' b' o':Nat) (xs ys:List Int) (hK:0<K) (hK2:K≤12) (hn:K≤n') (w:World)
  (hp:Box w p [.int .i64 r,.int .i64 K,.slice a n k0] 41) (hq:Box w q [.int .i64 r',.int .i64 c',.slice a' n' k0'] 41) (hx:IntsAt w a n k0 b o xs) (hy:IntsAt w a' n' k0' b' o' ys) (i:Nat) (hi:i<n) (hi2:i≤1000000) :
  Calls Tryz.prog 155 #[.int .i64 i,.pointer (some ⟨p,0,none⟩),.pointer (some ⟨q,0,none⟩)] w fun e w'=>e=.returned (.int .i64 (add (ix xs i) (ix ys (i % K))))∧∃ n,w'=w.drewN n:=by
 have p1:=hp.cell 1
 have p2:=hp.cell 2
 have q2:=hq.cell 2
 have hm:=Nat.mod_lt i hK
 obtain rfl:=hx.ptr (by omega)
 obtain rfl:=hy.ptr (by omega)
 have ca:=hx.cell _ hi
 have cb:=hy.cell (i % K) (by omega)
 obtain ⟨j,hj⟩:∃ j,j=i % K:=⟨_,rfl⟩
 rw [← hj] at cb hm ⊢
 have hmI:(i:Int) % (K:Int)=(j:Int):=by rw [← Int.natCast_emod,hj]
 have hmT:(i:Int).tmod (K:Int)=(j:Int):=by rw [Int.tmod_eq_emod_of_nonneg (by omega)];exact hmI
 have hKz:((K:Int) == 0)=false:=by simp;omega
 have hjn:j<n':=by omega
 clear hj
 go_enter Tryz.func155,Tryz.ntmps155
 go_wp2_with fail
 go_quiet ((go_at_call 63;first|exact quiet0 (add_any _ _)|exact quiet1 (add_any _ _)))
 go_wp2
 go_ret
 exact ⟨rfl,_,rfl⟩
theorem reluCell_any (p:Nat) (r c:Int) (a:Option Addr) (n k0 b o:Nat) (xs:List Int) (w:World)
  (hp:Box w p [.int .i64 r,.int .i64 c,.slice a n k0] 41) (hx:IntsAt w a n k0 b o xs) (i:Nat) (hi:i<n) (hi2:i≤1000000) :
  Calls Tryz.prog 162 #[.int .i64 i,.pointer (some ⟨p,0,none⟩)] w fun e w'=>e=.returned (.int .i64 (max (ix xs i) 0))∧∃ n,w'=w.drewN n:=by
 have p2:=hp.cell 2
 obtain rfl:=hx.ptr (by omega)
 have ca:=hx.cell _ hi
 go_enter Tryz.func162,Tryz.ntmps162
 go_wp2
 all_goals
  go_ret
  exact ⟨ret_int (by omega),0,rfl⟩
theorem scaleCell_any (p q:Nat) (r c:Int) (a:Option Addr) (n k0 b o:Nat) (xs:List Int) (kd wr wc br bc:Int) (a1 a2:Option Addr) (n1 k1 b1 o1 n2 k2:Nat) (ws:List Int) (w:World)
  (hp:Box w p [.int .i64 r,.int .i64 c,.slice a n k0] 41) (hq:Box w q [.int .i64 kd,.int .i64 wr,.int .i64 wc,.slice a1 n1 k1,.int .i64 br,.int .i64 bc,.slice a2 n2 k2] 84)
  (hx:IntsAt w a n k0 b o xs) (hy:IntsAt w a1 n1 k1 b1 o1 ws) (h1:0<n1) (i:Nat) (hi:i<n) (hi2:i≤1000000) :
  Calls Tryz.prog 166 #[.int .i64 i,.pointer (some ⟨p,0,none⟩),.pointer (some ⟨q,0,none⟩)] w fun e w'=>e=.returned (.int .i64 (mul (ix xs i) (ix ws 0)))∧∃ n,w'=w.drewN n:=by
 have p2:=hp.cell 2
 have q3:=hq.cell 3
 obtain rfl:=hx.ptr (by omega)
 obtain rfl:=hy.ptr h1
 have ca:=hx.cell _ hi
 have cb:=hy.cell 0 h1
 rw [Nat.add_zero] at cb
 go_enter Tryz.func166,Tryz.ntmps166
 go_wp2_with fail
 go_quiet ((go_at_call 88;first|exact quiet0 (mul_any _ _)|exact quiet1 (mul_any _ _)))
 go_wp2
 go_ret
 exact ⟨rfl,_,rfl⟩
theorem more_any (r:Int) (K:Nat) (hK2:K≤12) (r' c':Int) (a a':Option Addr) (n k0 b o n' k0' b' o':Nat) (xs ys:List Int) (hn:n≤576) (hK:0<n→0<K) (hn':K≤n') (w:World) (hx:IntsAt w a n k0 b o xs) (hy:IntsAt w a' n' k0' b' o' ys) :
  Calls Tryz.prog 150 #[.agg #[.int .i64 r,.int .i64 K,.slice a n k0],.agg #[.int .i64 r',.int .i64 c',.slice a' n' k0']] w fun e w'=>∃ v,e=.returned v∧MatNew w.heap.size w' v ⟨r,K,moreCells xs ys K⟩∧Below w.heap.size w w':=by
 have hl:=hx.len
 have HL:=Lib.hid hl
 clear hl
 go_enter Tryz.func150,Tryz.ntmps150
 go_wp2_with fail
 refine (each_any r K a n k0 hn 155 #[.pointer (some ⟨w.heap.size,0,none⟩),.pointer (some ⟨w.heap.size+1,0,none⟩)] (fun k=>add (ix xs k) (ix ys (k % K))) _ cf_more ?_).mono ?_
 ·intro i hi W hW
  exact moreCell_any _ _ r r' c' K _ _ _ _ _ _ _ _ _ _ xs ys (hK (by omega)) hK2 hn' W ((((Box.new' _ _ _ _ rfl).alloc _).alloc _).keep hW) (((Box.new' _ (w.heap.size+1) _ _ (by simp)).alloc _).keep hW) ((hx.alloc _ |>.alloc _ |>.alloc _).keep hW) ((hy.alloc _ |>.alloc _ |>.alloc _).keep hW) i hi (by omega)
 ·rintro e w1 ⟨b1,rfl,hbb,hi1,hb1⟩
  have B2:=(Box.new' _ (w.heap.size+1+1) [.int .i64 0,.int .i64 0,.slice none 0 0] 41 (by simp)).keep hb1
  have B2c:=B2.cell
  have B2f:=B2.thawed
  have B2z:=B2.lt
  have B2k:=lt_add B2z
  simp at hbb
  go_wp2
  refine bodyPost_ret (v:=.agg #[.int .i64 r,.int .i64 K,.slice (some ⟨b1,0,none⟩) n n]) (by simp [results,Tryz.results150,go_sem,B2c]) rfl ⟨_,rfl,?_,(Below.x1 hb1)⟩
  unfold moreCells
  rw [HL.out]
  exact MatNew.mk (fun _=>by omega) (hi1.set3 (fun _=>by omega) _ _ _)
structure Goes (l:Lay) (x:Mat):Prop where
 lay:l.fault=0
 mat:x.fault=0
 takes:l.takes x.cols
theorem fault_form' {m:Mat} (h:m.fault=0):∃ (R K:Nat) (xs:List Int),m=⟨R,K,xs⟩∧R≤24∧K≤12∧xs.length=R*K∧inEnds xs:=by
 obtain ⟨R,K,eR,eK,hR,hK,hl,he⟩:=matFault_ok h
 obtain ⟨r,c,xs⟩:=m
 dsimp only at eR eK hl he
 subst eR eK
 exact ⟨R,K,xs,rfl,hR,hK,hl,he⟩
theorem run_2 (W B:Mat) (x:Mat) (a0 aw ab:Option Addr) (n0 k0 b0 o0 nw kw nb kb:Nat) (w:World) (x0:IntsAt w a0 n0 k0 b0 o0 x.cells) (hg:Goes ⟨2,W,B⟩ x) :
  Calls Tryz.prog 159 #[.agg #[],.agg #[.int .i64 2,.int .i64 W.rows,.int .i64 W.cols,.slice aw nw kw,.int .i64 B.rows,.int .i64 B.cols,.slice ab nb kb],.agg #[.int .i64 x.rows,.int .i64 x.cols,.slice a0 n0 k0]] w fun e w'=>
   ∃ v,e=.returned v∧MatNew w.heap.size w' v (Lay.go ⟨2,W,B⟩ x)∧Below w.heap.size w w':=by
 obtain ⟨_,_,fw,fb,ft⟩:=Lay.fault_ok hg.lay
 obtain ⟨R,K,xs,rfl,hR,hK,hla,_⟩:=fault_form' hg.mat
 have hl0:=x0.len
 have hrk:R*K≤288:=Nat.mul_le_mul hR hK
 dsimp only at x0 hl0
 obtain rfl:R*K=n0:=by rw [← hla];exact hl0
 have hKp:0<R*K→0<K:=fun h=>by
  rcases Nat.eq_zero_or_pos K with h0|h0
  ·rw [h0,Nat.mul_zero] at h;omega
  ·exact h0
 have hgo:Lay.go ⟨2,W,B⟩ ⟨R,K,xs⟩=⟨R,K,upto (fun k=>max (ix xs k) 0) (R*K)⟩:=by
  unfold Lay.go
  rw [if_neg (by simp),if_pos rfl]
  dsimp only
  rw [hla]
 rw [hgo]
 clear hgo fw fb ft hg hla hl0
 go_enter Tryz.func159,Tryz.ntmps159
 go_wp2_with fail
 refine (each_any R K a0 (R*K) k0 (by omega) 162 #[.pointer (some ⟨w.heap.size+1+1,0,none⟩)] (fun k=>max (ix xs k) 0) _ cf_relu ?_).mono ?_
 ·intro i hi W hW
  exact reluCell_any _ _ _ _ _ _ _ _ xs W (((Box.new' _ (w.heap.size+1+1) _ _ (by simp)).alloc _).keep hW) ((x0.alloc _ |>.alloc _ |>.alloc _ |>.alloc _).keep hW) i hi (by omega)
 ·rintro e w1 ⟨b1,rfl,hbb,hi1,hb1⟩
  have B2:=(Box.new' _ (w.heap.size+1+1+1) [.int .i64 0,.int .i64 0,.slice none 0 0] 41 (by simp)).keep hb1
  have B2c:=B2.cell
  have B2f:=B2.thawed
  have B2z:=B2.lt
  have B2k:=lt_add B2z
  simp at hbb
  go_wp2
  refine bodyPost_ret (v:=.agg #[.int .i64 R,.int .i64 K,.slice (some ⟨b1,0,none⟩) (R*K) (R*K)]) (by simp [results,Tryz.results159,go_sem,B2c]) rfl ⟨_,rfl,MatNew.mk (fun _=>by omega) (hi1.set3 (fun _=>by omega) _ _ _),(Below.x1 hb1)⟩
theorem run_3 (W B:Mat) (x:Mat) (a0 aw ab:Option Addr) (n0 k0 b0 o0 nw kw bw ow nb kb:Nat) (w:World) (x0:IntsAt w a0 n0 k0 b0 o0 x.cells) (xw:IntsAt w aw nw kw bw ow W.cells) (hg:Goes ⟨3,W,B⟩ x) :
  Calls Tryz.prog 165 #[.agg #[],.agg #[.int .i64 3,.int .i64 W.rows,.int .i64 W.cols,.slice aw nw kw,.int .i64 B.rows,.int .i64 B.cols,.slice ab nb kb],.agg #[.int .i64 x.rows,.int .i64 x.cols,.slice a0 n0 k0]] w fun e w'=>
   ∃ v,e=.returned v∧MatNew w.heap.size w' v (Lay.go ⟨3,W,B⟩ x)∧Below w.heap.size w w':=by
 obtain ⟨_,_,fw,fb,ft⟩:=Lay.fault_ok hg.lay
 obtain ⟨R,K,xs,rfl,hR,hK,hla,_⟩:=fault_form' hg.mat
 have hl0:=x0.len
 have hrk:R*K≤288:=Nat.mul_le_mul hR hK
 dsimp only at x0 hl0
 obtain rfl:R*K=n0:=by rw [← hla];exact hl0
 have hKp:0<R*K→0<K:=fun h=>by
  rcases Nat.eq_zero_or_pos K with h0|h0
  ·rw [h0,Nat.mul_zero] at h;omega
  ·exact h0
 have hgo:Lay.go ⟨3,W,B⟩ ⟨R,K,xs⟩=⟨R,K,upto (fun k=>mul (ix xs k) (ix W.cells 0)) (R*K)⟩:=by
  unfold Lay.go
  rw [if_neg (by simp),if_neg (by simp),if_pos rfl]
  dsimp only
  rw [hla]
 have hnw:0<nw:=by
  obtain ⟨R',K',e1,e2,_,_,h3,_⟩:=matFault_ok fw
  unfold Lay.fits at ft
  dsimp only at ft e1 e2 h3
  have h4:W.rows=1∧W.cols=1:=by omega
  obtain rfl:R'=1:=by omega
  obtain rfl:K'=1:=by omega
  rw [← xw.len,h3]
  omega
 rw [hgo]
 clear hgo fw fb ft hg hla hl0
 go_enter Tryz.func165,Tryz.ntmps165
 go_wp2_with fail
 refine (each_any R K a0 (R*K) k0 (by omega) 166 #[.pointer (some ⟨w.heap.size+1+1,0,none⟩),.pointer (some ⟨w.heap.size+1,0,none⟩)] (fun k=>mul (ix xs k) (ix W.cells 0)) _ cf_scale ?_).mono ?_
 ·intro i hi U hU
  exact scaleCell_any _ _ _ _ _ _ _ _ _ xs _ _ _ _ _ _ _ _ _ _ _ _ _ W.cells U (((Box.new' _ (w.heap.size+1+1) _ _ (by simp)).alloc _).keep hU) ((((Box.new' _ (w.heap.size+1) _ _ (by simp)).alloc _).alloc _).keep hU) ((x0.alloc _ |>.alloc _ |>.alloc _ |>.alloc _).keep hU) ((xw.alloc _ |>.alloc _ |>.alloc _ |>.alloc _).keep hU) hnw i hi (by omega)
 ·rintro e w1 ⟨b1,rfl,hbb,hi1,hb1⟩
  have B2:=(Box.new' _ (w.heap.size+1+1+1) [.int .i64 0,.int .i64 0,.slice none 0 0] 41 (by simp)).keep hb1
  have B2c:=B2.cell
  have B2f:=B2.thawed
  have B2z:=B2.lt
  have B2k:=lt_add B2z
  simp at hbb
  go_wp2
  refine bodyPost_ret (v:=.agg #[.int .i64 R,.int .i64 K,.slice (some ⟨b1,0,none⟩) (R*K) (R*K)]) (by simp [results,Tryz.results165,go_sem,B2c]) rfl ⟨_,rfl,MatNew.mk (fun _=>by omega) (hi1.set3 (fun _=>by omega) _ _ _),(Below.x1 hb1)⟩
theorem run_4 (W B:Mat) (x:Mat) (a0 aw ab:Option Addr) (n0 k0 b0 o0 nw kw nb kb bb ob:Nat) (w:World) (x0:IntsAt w a0 n0 k0 b0 o0 x.cells) (xb:IntsAt w ab nb kb bb ob B.cells) (hg:Goes ⟨4,W,B⟩ x) :
  Calls Tryz.prog 169 #[.agg #[],.agg #[.int .i64 4,.int .i64 W.rows,.int .i64 W.cols,.slice aw nw kw,.int .i64 B.rows,.int .i64 B.cols,.slice ab nb kb],.agg #[.int .i64 x.rows,.int .i64 x.cols,.slice a0 n0 k0]] w fun e w'=>
   ∃ v,e=.returned v∧MatNew w.heap.size w' v (Lay.go ⟨4,W,B⟩ x)∧Below w.heap.size w w':=by
 have htk:=hg.takes.2 rfl
 obtain ⟨_,_,fw,fb,ft⟩:=Lay.fault_ok hg.lay
 obtain ⟨R,K,xs,rfl,hR,hK,hla,_⟩:=fault_form' hg.mat
 have hl0:=x0.len
 have hrk:R*K≤288:=Nat.mul_le_mul hR hK
 dsimp only at x0 hl0
 obtain rfl:R*K=n0:=by rw [← hla];exact hl0
 have hKp:0<R*K→0<K:=fun h=>by
  rcases Nat.eq_zero_or_pos K with h0|h0
  ·rw [h0,Nat.mul_zero] at h;omega
  ·exact h0
 have hgo:Lay.go ⟨4,W,B⟩ ⟨R,K,xs⟩=⟨R,K,moreCells xs B.cells K⟩:=by
  unfold Lay.go
  rw [if_neg (by simp),if_neg (by simp),if_neg (by simp)]
  simp only [Int.toNat_natCast]
 have hnb:K≤nb:=by
  obtain ⟨R',K',e1,e2,_,_,h3,_⟩:=matFault_ok fb
  unfold Lay.fits at ft
  dsimp only at ft e1 e2 h3 htk
  have h4:B.rows=1:=by omega
  obtain rfl:R'=1:=by omega
  rw [← xb.len,h3]
  omega
 rw [hgo]
 clear hgo fw fb ft hg hla hl0 htk
 go_enter Tryz.func169,Tryz.ntmps169
 go_wp2_with fail
 refine (more_any R K hK B.rows B.cols _ _ _ _ _ _ _ _ _ _ xs B.cells (by omega) hKp hnb _ (x0.alloc _ |>.alloc _ |>.alloc _ |>.alloc _) (xb.alloc _ |>.alloc _ |>.alloc _ |>.alloc _)).mono ?_
 rintro e w1 ⟨v1,rfl,⟨a1,n1,k1,b1,o1,rfl,hn1,hi1⟩,hb1⟩
 have B2:=(Box.new' _ (w.heap.size+1+1+1) [.int .i64 0,.int .i64 0,.slice none 0 0] 41 (by simp)).keep hb1
 have B2c:=B2.cell
 have B2f:=B2.thawed
 have B2z:=B2.lt
 have B2k:=lt_add B2z
 go_wp2
 refine bodyPost_ret (v:=.agg #[.int .i64 R,.int .i64 K,.slice a1 n1 k1]) (by simp [results,Tryz.results169,go_sem,B2c]) rfl ⟨_,rfl,MatNew.mk (fun h=>by have:=hn1 h;simp at this;omega) (hi1.set3 (fun h=>by have:=hn1 h;simp at this;omega) _ _ _),(Below.x1 hb1)⟩
theorem run_1 (W B:Mat) (x:Mat) (a0 aw ab:Option Addr) (n0 k0 b0 o0 nw kw bw ow nb kb bb ob:Nat) (w:World) (x0:IntsAt w a0 n0 k0 b0 o0 x.cells) (xw:IntsAt w aw nw kw bw ow W.cells) (xb:IntsAt w ab nb kb bb ob B.cells) (hg:Goes ⟨1,W,B⟩ x) :
  Calls Tryz.prog 145 #[.agg #[],.agg #[.int .i64 1,.int .i64 W.rows,.int .i64 W.cols,.slice aw nw kw,.int .i64 B.rows,.int .i64 B.cols,.slice ab nb kb],.agg #[.int .i64 x.rows,.int .i64 x.cols,.slice a0 n0 k0]] w fun e w'=>
   ∃ v,e=.returned v∧MatNew w.heap.size w' v (Lay.go ⟨1,W,B⟩ x)∧Below w.heap.size w w':=by
 have htk:=hg.takes.1 rfl
 obtain ⟨_,_,fw,fb,ft⟩:=Lay.fault_ok hg.lay
 have hf:mulFault x W=0:=mulFault_zero hg.mat fw htk
 obtain ⟨R,K,e1,e2,hR,hK,hla,_⟩:=matFault_ok hg.mat
 obtain ⟨K',C,e3,e4,hK',hC,hlw,_⟩:=matFault_ok fw
 dsimp only at e3 e4 hlw htk
 have hgo:Lay.go ⟨1,W,B⟩ x=⟨x.rows,(C:Nat),moreCells (matMul x W).cells B.cells C⟩:=by
  unfold Lay.go
  rw [if_pos rfl]
  dsimp only
  rw [e4]
  simp only [Int.toNat_natCast]
 have hcl:(matMul x W).cells.length=R*C:=by
  unfold matMul
  dsimp only
  rw [grid_length,e1,e4]
  simp only [Int.toNat_natCast]
 have hnb:C≤nb:=by
  obtain ⟨R',K'',e5,e6,_,_,h3,_⟩:=matFault_ok fb
  unfold Lay.fits at ft
  dsimp only at ft e5 e6 h3
  have h4:B.rows=1∧B.cols=W.cols:=by omega
  obtain rfl:R'=1:=by omega
  rw [← xb.len,h3]
  omega
 have hrc:R*C≤288:=Nat.mul_le_mul hR hC
 have hc4:(W.cols:Int)=(C:Int):=e4
 rw [hgo]
 have HC:=Lib.hid hcl
 have HC4:=Lib.hid hc4
 have hCp:0<R*C→0<C:=fun h=>by
  rcases Nat.eq_zero_or_pos C with h0|h0
  ·rw [h0,Nat.mul_zero] at h;omega
  ·exact h0
 have HF:=Lib.hid hf
 clear hgo fw fb ft hg hla htk hcl hc4 e1 e2 e3 e4 hlw hf
 go_enter Tryz.func145,Tryz.ntmps145
 go_wp2_with fail
 refine (matMul_ok x W _ _ _ (MatAt.mk (x0.alloc _ |>.alloc _ |>.alloc _ |>.alloc _)) (MatAt.mk (xw.alloc _ |>.alloc _ |>.alloc _ |>.alloc _)) HF.out).mono ?_
 rintro e w1 ⟨v1,rfl,⟨a1,n1,k1,b1,o1,rfl,hi1⟩,hb1⟩
 have hn1:n1=R*C:=by rw [← hi1.len];exact HC.out
 have B0:=(((Box.new' _ (w.heap.size+1) _ _ (by simp)).alloc _).alloc _).keep hb1
 have B0c:=B0.cell
 have B0f:=B0.thawed
 have B0z:=B0.lt
 have B0k:=lt_add B0z
 have B2:=(Box.new' _ (w.heap.size+1+1+1) [.int .i64 0,.int .i64 0,.slice none 0 0] 41 (by simp)).keep hb1
 have B2c:=B2.cell
 have B2f:=B2.thawed
 have B2z:=B2.lt
 have B2k:=lt_add B2z
 have x3:=(xb.alloc _ |>.alloc _ |>.alloc _ |>.alloc _).keep hb1
 have HN1:=Lib.hid hn1
 clear hn1
 go_wp2_with fail
 have hcc:(matMul x W).cols=(C:Int):=HC4.out
 rw [hcc]
 refine (more_any (matMul x W).rows C hC B.rows B.cols _ _ n1 _ _ _ _ _ _ _ (matMul x W).cells B.cells (by have:=HN1.out;omega) (by have:=HN1.out;intro h;exact hCp (by omega)) hnb _ (hi1.alloc _) (x3.alloc _)).mono ?_
 rintro e w2 ⟨v2,rfl,⟨a2,n2,k2,b2,o2,rfl,hn2,hi2⟩,hb2⟩
 have B3:=(B2.alloc _).keep hb2
 have B3c:=B3.cell
 have B3f:=B3.thawed
 have B3z:=B3.lt
 have B3k:=lt_add B3z
 have hs1:=hb1.size
 simp at hs1
 go_wp2
 refine bodyPost_ret (v:=.agg #[.int .i64 x.rows,.int .i64 C,.slice a2 n2 k2]) (by simp [results,Tryz.results145,go_sem,B3c];rfl) rfl ⟨_,rfl,MatNew.mk (fun h=>by have:=hn2 h;simp at this;omega) (hi2.set3 (fun h=>by have:=hn2 h;simp at this;omega) _ _ _),(Below.x2 hb2 hb1)⟩
end Go.Proofs.YtchngeagnlngaaaGreatDoor
end
