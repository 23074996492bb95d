/- Texts joined: Open, Opens, SameI, Fix, ErrV, Mat1, Lay1. -/
import Derived.Test.YtchngeagnlngaaaGreatDoorJ05
import Derived.Test.YtchngeagnlngaaaGreatDoorProg
import Derived.ProofKit
import Derived.OpenShut
import Derived.Lib.SmallJoins
import Derived.Deep.Slices
import Derived.Deep.Strs
import Derived.WalkKit
import Derived.WalkLawsBesides
import Derived.WalkSpells
import Derived.BigQuiet
import Derived.IntWalk
import Derived.RegionTactic
import Derived.Test.YtchngeagnlngaaaGreatDoorJ01
set_option linter.unusedVariables false
set_option linter.unusedSimpArgs false
set_option linter.unusedSectionVars false
section
namespace Go.Proofs.YtchngeagnlngaaaGreatDoor
open Go.ChangeShapes Go.WideShapes Go.ChangeAt Go.RowKit Go.Joins Gal
theorem cells_mat:Tryz.prog.cellsOf 41=3:=by kernel_rfl
theorem cells_int:Tryz.prog.cellsOf 3=1:=by kernel_rfl
end Go.Proofs.YtchngeagnlngaaaGreatDoor
end
section
namespace Gal
open Go Go.RowKit Go.ChangeShapes Go.WideShapes Go.Deep
theorem list_of {α:Type} {P:Nat→α→Prop}:∀ n:Nat,(∀ i,i<n→∃ x,P i x)→∃ xs:List α,xs.length=n∧∀ i x,xs[i]?=some x→P i x:=by
 intro n
 induction n with
 | zero=>exact fun _=>⟨[],rfl,fun i x h=>by cases h⟩
 | succ n ih=>
  intro h
  obtain ⟨xs,hl,hx⟩:=ih fun i hi=>h i (by omega)
  obtain ⟨y,hy⟩:=h n (by omega)
  refine ⟨xs++[y],by simp [hl],fun i x hi=>?_⟩
  rcases Nat.lt_or_ge i xs.length with h1|h1
  ·rw [List.getElem?_append_left h1] at hi
   exact hx i x hi
  ·rw [List.getElem?_append_right h1] at hi
   have h2:i - xs.length=0:=by
    rcases Nat.eq_zero_or_pos (i - xs.length) with h2|h2
    ·exact h2
    ·rw [List.getElem?_eq_none (by simp;omega)] at hi;cases hi
   rw [h2] at hi
   simp at hi
   subst hi
   obtain rfl:i=n:=by omega
   exact hy
section
variable {P:Program}
def Opens {α:Type} (P:Program) (f:Form α) (T:TypeId):Prop:=
 P.cellsOf T=f.size∧∀ (H:Type) (enc:TypeId × Value→H) (w:World) (base:Nat) (spare:Nat→Bool) (held:Bool) (fuel:Nat) (cs:List Value) (y:DataW H × List MemPlace),
  DataW.trod enc P w base spare held fuel T cs=some y→∃ x,f.reads w anyB cs x
theorem Opens.int {T:TypeId} (hT:P.underlying T=some (.int .i64)) (hc:P.cellsOf T=1):Opens P Form.int T:=⟨hc,fun H enc w base spare held fuel cs y h=>by
 obtain ⟨x,e,_,_⟩:=DataW.trod_int hT h
 exact ⟨x,e⟩⟩
theorem Opens.as {α β:Type} {f:Form α} {T:TypeId} (h:Opens P f T) (mk:α→β):Opens P (f.as mk) T:=⟨h.1,fun H enc w base spare held fuel cs y hy=>by
 obtain ⟨x,hx⟩:=h.2 H enc w base spare held fuel cs y hy
 exact ⟨mk x,x,hx,rfl⟩⟩
theorem Opens.two {α β:Type} {f:Form α} {g:Form β} {T:TypeId} {f0 f1:Field} (ht:P.underlying T=some (.struct #[f0,f1])) (hf:Opens P f f0.type) (hg:Opens P g f1.type) (h0:f0.offset=0) (h1:f1.offset=f.size) (hc:P.cellsOf T=f.size+g.size) :
  Opens P (f.and g) T:=⟨hc,fun H enc w base spare held fuel cs y hy=>by
 obtain ⟨y0,y1,n,_,hl,k0,k1⟩:=trod_struct2 ht hy
 obtain ⟨x0,r0⟩:=hf.2 _ _ _ _ _ _ _ _ _ k0
 obtain ⟨x1,r1⟩:=hg.2 _ _ _ _ _ _ _ _ _ k1
 refine ⟨(x0,x1),_,_,?_,r0,r1⟩
 rw [h0,h1,hf.1,hg.1,List.drop_zero,List.take_of_length_le (l:=cs.drop f.size) (by rw [List.length_drop,hl,hc];omega),List.take_append_drop]⟩
theorem Opens.three {α β γ:Type} {f:Form α} {g:Form β} {k:Form γ} {T:TypeId} {f0 f1 f2:Field} (ht:P.underlying T=some (.struct #[f0,f1,f2])) (hf:Opens P f f0.type) (hg:Opens P g f1.type) (hk:Opens P k f2.type)
  (h0:f0.offset=0) (h1:f1.offset=f.size) (h2:f2.offset=f.size+g.size) (hc:P.cellsOf T=f.size+(g.size+k.size)) :
  Opens P (f.and (g.and k)) T:=⟨hc,fun H enc w base spare held fuel cs y hy=>by
 obtain ⟨y0,y1,y2,n,_,hl,k0,k1,k2⟩:=trod_struct3 ht hy
 obtain ⟨x0,r0⟩:=hf.2 _ _ _ _ _ _ _ _ _ k0
 obtain ⟨x1,r1⟩:=hg.2 _ _ _ _ _ _ _ _ _ k1
 obtain ⟨x2,r2⟩:=hk.2 _ _ _ _ _ _ _ _ _ k2
 refine ⟨(x0,x1,x2),_,_,?_,r0,_,_,rfl,r1,r2⟩
 rw [h0,h1,h2,hf.1,hg.1,hk.1,List.drop_zero,List.take_of_length_le (l:=cs.drop (f.size+g.size)) (by rw [List.length_drop,hl,hc];omega),← List.drop_drop,List.take_append_drop,List.take_append_drop]⟩
theorem Opens.slice {α:Type} {f:Form α} {T E:TypeId} (hf:Opens P f E) (ht:P.underlying T=some (.slice E)) (hc:P.cellsOf T=1) (hsz:0<f.size):Opens P f.slice T:=⟨hc,fun H enc w base spare held fuel cs y hy=>by
 rcases open_slice ht hy with ⟨rfl,_⟩|⟨a,len,cap,m,n,D,Pl,rfl,hb,hl,hm,hmm,rfl,hx⟩
 ·exact ⟨[],none,0,0,0,0,rfl,RowAt.nil f w anyB⟩
 ·have hlm:len≤m:=by rw [hmm];split <;> omega
  obtain ⟨b,off,spot⟩:=a
  have hcell0:0<len→∃ v,w.cell? ⟨b,off,none⟩=some v∧spot=none:=fun h0=>by
   obtain ⟨cs',h1,h2⟩:=hx 0 (by omega)
   obtain ⟨_,hlen,hcell⟩:=World.cells?_some h1
   rw [hf.1] at hcell hlen
   have hh:=hcell 0 hsz
   rw [List.getElem?_eq_getElem (by omega)] at hh
   have hsp:=World.cell?_spot hh
   simp [Addr.add] at hsp hh
   subst hsp
   exact ⟨_,hh,rfl⟩
  have hall:∀ i,i<len→∃ x,∃ cs,f.reads w anyB cs x∧∀ j,j<f.size→w.cell? ⟨b,off+i*f.size+j,none⟩=cs[j]?:=fun i hi=>by
   obtain ⟨cs',h1,h2⟩:=hx i (by omega)
   obtain ⟨x,hr⟩:=hf.2 _ _ _ _ _ _ _ _ _ h2
   obtain ⟨_,hlen,hcell⟩:=World.cells?_some h1
   rw [hf.1] at hcell hlen
   obtain ⟨_,_,hsp⟩:=hcell0 (by omega)
   subst hsp
   refine ⟨x,cs',hr,fun j hj=>?_⟩
   rw [← hcell j hj,add_add]
   congr 1
   unfold Addr.add
   split
   ·rename_i h0
    simp only [Addr.mk.injEq,and_true,true_and]
    omega
   ·simp only [Addr.mk.injEq,and_true,true_and]
    omega
  obtain ⟨xs,hxl,hxs⟩:=list_of len hall
  refine ⟨xs,_,len,cap,b,off,rfl,hxl,hl,hm,fun h0=>?_,fun h0=>?_,fun _=>trivial,hxs⟩
  ·obtain ⟨v,_,rfl⟩:=hcell0 h0
   rfl
  ·obtain ⟨v,hv,_⟩:=hcell0 h0
   exact World.block_lt_of_cell? w _ hv⟩
theorem Opens.top_slice {α:Type} {f:Form α} {T E:TypeId} (hf:Opens P f E) (ht:P.underlying T=some (.slice E)) (hc:P.cellsOf T=1) (hsz:0<f.size) {H:Type} {enc:TypeId × Value→H} {w:World} {base b0:Nat} {r:Reach} {spare:Nat→Bool} {held:Bool} {v:Value} {d:DataW H} {p:List MemPlace}
  (hv:Value.okWide P w r b0 T v) (h:DataW.Trod enc P w base spare held T v d p) :
  ∃ a n cap b off xs,v=.slice a n cap∧RowAt f w anyB a n cap b off xs∧(n=0∨∃ (D:Nat→DataW H) (sp:List (DataW H)),d=.slice ((List.range n).map D) sp):=by
 obtain ⟨a0,len0,cap0,rfl⟩:=okWide_slice ht hv
 obtain ⟨fuel,hy⟩:=h
 obtain ⟨xs,a,n,cap,b,off,e,hr⟩:=(hf.slice ht hc hsz).2 _ _ _ _ _ _ _ _ _ hy
 have e':a0=a∧len0=n∧cap0=cap:=by simpa [Value.cells] using e
 obtain ⟨rfl,rfl,rfl⟩:=e'
 refine ⟨_,_,_,b,off,xs,rfl,hr,?_⟩
 rcases open_slice ht hy with ⟨h0,_⟩|⟨a',len,cap',m,n',D,Pl,h0,_,_,_,_,hx,_⟩
 ·left
  have:a0=none∧len0=0∧cap0=0:=by simpa [Value.cells] using h0
  exact this.2.1
 ·right
  have:a0=some a'∧len0=len∧cap0=cap':=by simpa [Value.cells] using h0
  obtain ⟨_,rfl,_⟩:=this
  simp only [Prod.mk.injEq] at hx
  exact ⟨D,_,hx.1⟩
theorem Opens.top_struct {α:Type} {f:Form α} {T:TypeId} {fs:Array Field} (hf:Opens P f T) (ht:P.underlying T=some (.struct fs)) {H:Type} {enc:TypeId × Value→H} {w:World} {base b0:Nat} {r:Reach} {spare:Nat→Bool} {held:Bool} {v:Value} {d:DataW H} {p:List MemPlace}
  (hv:Value.okWide P w r b0 T v) (h:DataW.Trod enc P w base spare held T v d p):∃ x,At f w anyB v x:=by
 obtain ⟨cs,rfl,_⟩:=okWide_struct ht hv
 obtain ⟨fuel,hy⟩:=h
 obtain ⟨x,hx⟩:=hf.2 _ _ _ _ _ _ _ _ _ hy
 exact ⟨x,cs.toList,by simp,by simpa [Value.cells] using hx⟩
end
end Gal
namespace Go.Proofs.YtchngeagnlngaaaGreatDoor
open Go.RowKit Gal
theorem opens_int:Opens Tryz.prog Form.int 3:=Opens.int Tryz.underlying3 cells_int
set_option maxRecDepth 100000 in
theorem opens_mat:Opens Tryz.prog Form.mat 41:=⟨cells_mat,fun H enc w base spare held fuel cs y h=>by
 have hI:Opens Tryz.prog (Form.int.and (Form.int.and Form.int.slice)) 41:=
  Opens.three Tryz.underlying41 opens_int opens_int (Opens.slice opens_int Tryz.underlying29 (by kernel_rfl) (by decide)) (by kernel_rfl) (by kernel_rfl) (by kernel_rfl) cells_mat
 obtain ⟨⟨r,c,xs⟩,c0,c1,rfl,rfl,c2,c3,rfl,rfl,a,n,cap,b,off,rfl,hr⟩:=hI.2 _ _ _ _ _ _ _ _ _ h
 exact ⟨⟨r,c,xs⟩,a,n,cap,b,off,rfl,fun _=>trivial,hr.ints⟩⟩
end Go.Proofs.YtchngeagnlngaaaGreatDoor
end
section
namespace Go.Proofs.YtchngeagnlngaaaGreatDoor
open Go.RowKit Gal
theorem ret_int {k:IntKind} {a b:Int} (h:a=b):Ending.returned (.int k a)=.returned (.int k b):=by rw [h]
set_option maxRecDepth 100000 in
set_option maxHeartbeats 1000000 in
theorem ints_any (a0 a1:Option Addr) (n0 n1 k0 k1 b0 b1 o0 o1:Nat) (xs ys:List Int) (w:World) (h0:IntsAt w a0 n0 k0 b0 o0 xs) (h1:IntsAt w a1 n1 k1 b1 o1 ys) :
  Calls Tryz.prog 79 #[.slice a0 n0 k0,.slice a1 n1 k1] w fun e w'=>e=.returned (.bool (decide (xs=ys)))∧∃ m,w'=w.drewN m:=by
 have m0:=h0.max
 have m1:=h1.max
 unfold maxLen at m0 m1
 have l0:=h0.len
 have l1:=h1.len
 by_cases hn:n0=n1
 ·subst hn
  have hne:((n0:Int) != (n0:Int))=false:=by simp
  go_enter Tryz.func79,Tryz.ntmps79
  go_wp2
  go_loopw [5] (fun i wr=>∃ k m:Nat,k≤n0∧i=.int .i64 k∧wr=w.drewN m∧(∀ j,j<k→ix xs j=ix ys j)) (fun i _=>n0 - (intOf i).toNat)
  case atStart=>exact ⟨0,0,Nat.zero_le _,rfl,rfl,fun j hj=>absurd hj (Nat.not_lt_zero _)⟩
  case round=>
   obtain ⟨k,m,hk,rfl,rfl,hpre⟩:=hrel
   have HP:=Lib.hid hpre
   clear hpre
   by_cases hlt:k<n0
   ·have hltI:(k:Int)<(n0:Int):=by omega
    obtain rfl:=h0.ptr (by omega)
    obtain rfl:=h1.ptr (by omega)
    have c0:=h0.cell k hlt
    have c1:=h1.cell k hlt
    by_cases hx:ix xs k=ix ys k
    ·have hxx:(ix xs k != ix ys k)=false:=by simp [hx]
     have HX:=Lib.hid hx
     clear hx
     go_wp2
     go_quiet (fail)
     go_wp2
     go_roundw
     case rel=>exact ⟨k+1,_,by omega,by go_num,rfl,fun j hj=>by
      by_cases e:j=k
      ·rw [e];exact HX.out
      ·exact HP.out j (by omega)⟩
     case measure=>simp [intOf];omega
    ·have hxx:(ix xs k != ix ys k)=true:=by simp [hx]
     have HX:=Lib.hid hx
     clear hx
     go_wp2
     go_quiet (fail)
     go_wp2
     go_ret
     refine ⟨ret_val ?_,m+nq,World.drewN_drewN _ _ _⟩
     rw [decide_eq_false (fun h=>HX.out (by rw [h]))]
     rfl
   ·go_wp2
    go_ret
    refine ⟨ret_val ?_,m,rfl⟩
    rw [decide_eq_true (eq_of_ix (by omega) (fun j hj=>HP.out j (by omega)))]
    rfl
 ·have hne:((n0:Int) != (n1:Int))=true:=by simp;omega
  have hd:decide (xs=ys)=false:=decide_eq_false (fun h=>hn (by rw [← l0,← l1,h]))
  rw [hd]
  clear hd hn l0 l1
  go_enter Tryz.func79,Tryz.ntmps79
  go_wp2
  go_ret
  exact ⟨rfl,0,rfl⟩
instance:DecidableEq Mat:=fun a b=>by
 obtain ⟨r,c,xs⟩:=a
 obtain ⟨r',c',ys⟩:=b
 simp only [Mat.mk.injEq]
 exact inferInstance
end Go.Proofs.YtchngeagnlngaaaGreatDoor
end
section
namespace Go.Proofs.YtchngeagnlngaaaGreatDoor
open Go.RowKit
theorem clamp_any (x:Int) (w:World):Calls Tryz.prog 81 #[.int .i64 x] w fun e w'=>e=.returned (.int .i64 (Gal.clamp x))∧w=w':=by
 go_enter Tryz.func81,Tryz.ntmps81
 go_wp2
 all_goals (go_ret;exact ⟨ret_int (by unfold Gal.clamp;omega),rfl⟩)
theorem add_any (a b:Int) (w:World):Calls Tryz.prog 63 #[.int .i64 a,.int .i64 b] w fun e w'=>e=.returned (.int .i64 (Gal.add a b))∧w=w':=by
 have h1:=Gal.clamp_lo a;have h2:=Gal.clamp_hi a;have h3:=Gal.clamp_lo b;have h4:=Gal.clamp_hi b
 go_enter Tryz.func63,Tryz.ntmps63
 go_wp2_with (go_at_call 81;refine (clamp_any _ _).mono ?_;rintro e w' ⟨rfl,rfl⟩)
 go_ret
 exact ⟨rfl,rfl⟩
theorem sub_any (a b:Int) (w:World):Calls Tryz.prog 103 #[.int .i64 a,.int .i64 b] w fun e w'=>e=.returned (.int .i64 (Gal.sub a b))∧w=w':=by
 have h1:=Gal.clamp_lo a;have h2:=Gal.clamp_hi a;have h3:=Gal.clamp_lo b;have h4:=Gal.clamp_hi b
 go_enter Tryz.func103,Tryz.ntmps103
 go_wp2_with (go_at_call 81;refine (clamp_any _ _).mono ?_;rintro e w' ⟨rfl,rfl⟩)
 go_ret
 exact ⟨rfl,rfl⟩
theorem mul_any (a b:Int) (w:World):Calls Tryz.prog 88 #[.int .i64 a,.int .i64 b] w fun e w'=>e=.returned (.int .i64 (Gal.mul a b))∧w=w':=by
 have h1:=Gal.clamp_lo a;have h2:=Gal.clamp_hi a;have h3:=Gal.clamp_lo b;have h4:=Gal.clamp_hi b
 obtain ⟨h5,h6⟩:=Gal.mul_bd a b
 go_enter Tryz.func88,Tryz.ntmps88
 go_wp2_with (go_at_call 81;refine (clamp_any _ _).mono ?_;rintro e w' ⟨rfl,rfl⟩)
 go_ret
 exact ⟨rfl,rfl⟩
theorem rclamp_any (x:Int) (w:World):Calls Tryz.prog 49 #[.int .i64 x] w fun e w'=>e=.returned (.int .i64 (Gal.clamp x))∧w=w':=by
 go_enter Tryz.func49,Tryz.ntmps49
 go_wp2
 all_goals (go_ret;exact ⟨ret_int (by unfold Gal.clamp;omega),rfl⟩)
end Go.Proofs.YtchngeagnlngaaaGreatDoor
end
section
namespace Go.Proofs.YtchngeagnlngaaaGreatDoor
def errV (k:Int):Value:=if k=0 then .nilIface else .iface 36 (.int .i64 k)
theorem errV_nil {k:Int} (h:k=0):errV k=.nilIface:=by unfold errV;rw [if_pos h]
theorem errV_err {k:Int} (h:k≠0):errV k=.iface 36 (.int .i64 k):=by unfold errV;rw [if_neg h]
end Go.Proofs.YtchngeagnlngaaaGreatDoor
end
section
namespace Go.Proofs.YtchngeagnlngaaaGreatDoor
open Go.RowKit Gal
set_option maxHeartbeats 400000 in
theorem matCheck_any (r c:Int) (a:Option Addr) (n cap b off:Nat) (xs:List Int) (w:World) (hm:IntsAt w a n cap b off xs) :
  Calls Tryz.prog 53 #[.agg #[.int .i64 r,.int .i64 c,.slice a n cap]] w fun e w'=>e=.returned (errV (matFault r c xs))∧Below w.heap.size w w':=by
 by_cases h1:r<0∨24<r∨c<0∨12<c
 ·have hf:matFault r c xs=1:=by unfold matFault;rw [if_pos h1]
  rw [hf,errV_err (by omega)]
  clear hf hm
  go_enter Tryz.func53,Tryz.ntmps53
  go_wp2
  all_goals (go_ret;exact ⟨rfl,(Below.refl _ _).alloc (Nat.le_refl _) _⟩)
 ·have g1:0≤r∧r≤24∧0≤c∧c≤12:=by omega
  obtain ⟨r0,r1,c0,c1⟩:=g1
  obtain ⟨R,rfl⟩:=Int.eq_ofNat_of_zero_le r0
  obtain ⟨C,rfl⟩:=Int.eq_ofNat_of_zero_le c0
  have hrc:(R:Int)*C≤288:=by
   have:=Nat.mul_le_mul (show R≤24 by omega) (show C≤12 by omega)
   rw [← Int.natCast_mul];omega
  have hrc0:0≤(R:Int)*C:=by rw [← Int.natCast_mul];omega
  have hl:=hm.len
  have hmx:=hm.max
  unfold maxLen at hmx
  by_cases h2:(n:Int)=R*C
  ·have hne:((n:Int) != R*C)=false:=by simp [h2]
   have hn:n≤288:=by omega
   have hf:matFault R C xs=if inEnds xs then 0 else 1:=by unfold matFault;rw [if_neg h1,if_neg (by rw [hl];omega)]
   have HF:=Lib.hid hf
   clear hf h2 h1
   go_enter Tryz.func53,Tryz.ntmps53
   go_wp2
   go_loop [37] (fun i=>∃ k:Nat,k≤n∧i=.int .i64 k∧∀ j,j<k→clamp (ix xs j)=ix xs j) (fun i=>n - (intOf i).toNat)
   case atStart=>exact ⟨0,Nat.zero_le _,rfl,fun j hj=>absurd hj (Nat.not_lt_zero _)⟩
   case round=>
    obtain ⟨k,hk,rfl,hpre⟩:=hrel
    have HP:=Lib.hid hpre
    clear hpre
    by_cases hlt:k<n
    ·have hn0:0<n:=by omega
     obtain rfl:=hm.ptr hn0
     have hb0:=hm.lt hn0
     have hb:=lt_add hb0
     have hc:=hm.cell k hlt
     by_cases hx:clamp (ix xs k)=ix xs k
     ·have hxx:(clamp (ix xs k) != ix xs k)=false:=by simp [hx]
      have HX:=Lib.hid hx
      clear hx
      go_wp2_with (go_at_call 81;refine (clamp_any _ _).mono ?_;rintro e w' ⟨rfl,rfl⟩)
      go_round
      case rel=>exact ⟨k+1,by omega,by go_num,fun j hj=>by
       by_cases e:j=k
       ·rw [e];exact HX.out
       ·exact HP.out j (by omega)⟩
      case measure=>simp [intOf];omega
     ·have hxx:(clamp (ix xs k) != ix xs k)=true:=by simp [hx]
      have HX:=Lib.hid hx
      clear hx
      go_wp2_with (go_at_call 81;refine (clamp_any _ _).mono ?_;rintro e w' ⟨rfl,rfl⟩)
      go_ret
      refine ⟨ret_val ?_,(Below.refl _ _).alloc (Nat.le_refl _) _⟩
      show Value.iface _ _=_
      rw [← errV_err (k:=1) (by omega)]
      rw [HF.out,if_neg (fun h=>HX.out (h k (by rw [hl];exact hlt)))]
    ·go_wp2
     go_ret
     refine ⟨ret_val ?_,(Below.refl _ _).alloc (Nat.le_refl _) _⟩
     show Value.nilIface=_
     rw [HF.out,if_pos (show inEnds xs from fun j hj=>HP.out j (by omega)),errV_nil rfl]
  ·have hne:((n:Int) != R*C)=true:=by simp [h2]
   have hf:matFault R C xs=2:=by unfold matFault;rw [if_neg h1,if_pos (by rw [hl];exact h2)]
   rw [hf,errV_err (by omega)]
   clear hf h1 h2
   go_enter Tryz.func53,Tryz.ntmps53
   go_wp2
   go_ret
   exact ⟨rfl,(Below.refl _ _).alloc (Nat.le_refl _) _⟩
end Go.Proofs.YtchngeagnlngaaaGreatDoor
end
section
namespace Go.Proofs.YtchngeagnlngaaaGreatDoor
open Go.RowKit Gal
theorem of_any (k:Int) (w:World):Calls Tryz.prog 80 #[.int .i64 k] w fun e w'=>e=.returned (if k=1 then .iface 196 (.agg #[]) else if k=2 then .iface 199 (.agg #[]) else if k=3 then .iface 200 (.agg #[]) else if k=4 then .iface 201 (.agg #[]) else .nilIface)∧w=w':=by
 by_cases h1:k=1
 ·subst h1
  rw [if_pos rfl]
  go_enter Tryz.func80,Tryz.ntmps80
  go_wp2
  go_ret
  exact ⟨rfl,rfl⟩
 ·by_cases h2:k=2
  ·subst h2
   rw [if_neg h1,if_pos rfl]
   go_enter Tryz.func80,Tryz.ntmps80
   go_wp2
   go_ret
   exact ⟨rfl,rfl⟩
  ·by_cases h3:k=3
   ·subst h3
    rw [if_neg h1,if_neg h2,if_pos rfl]
    go_enter Tryz.func80,Tryz.ntmps80
    go_wp2
    go_ret
    exact ⟨rfl,rfl⟩
   ·by_cases h4:k=4
    ·subst h4
     rw [if_neg h1,if_neg h2,if_neg h3,if_pos rfl]
     go_enter Tryz.func80,Tryz.ntmps80
     go_wp2
     go_ret
     exact ⟨rfl,rfl⟩
    ·rw [if_neg h1,if_neg h2,if_neg h3,if_neg h4]
     have q1:(k == 1)=false:=by simp [h1]
     have q2:(k == 2)=false:=by simp [h2]
     have q3:(k == 3)=false:=by simp [h3]
     have q4:(k == 4)=false:=by simp [h4]
     clear h1 h2 h3 h4
     go_enter Tryz.func80,Tryz.ntmps80
     go_wp2
     go_ret
     exact ⟨rfl,rfl⟩
theorem of_1 (w:World):Calls Tryz.prog 80 #[.int .i64 1] w fun e w'=>e=.returned (.iface 196 (.agg #[]))∧w=w':=of_any 1 w
theorem of_2 (w:World):Calls Tryz.prog 80 #[.int .i64 2] w fun e w'=>e=.returned (.iface 199 (.agg #[]))∧w=w':=of_any 2 w
theorem of_3 (w:World):Calls Tryz.prog 80 #[.int .i64 3] w fun e w'=>e=.returned (.iface 200 (.agg #[]))∧w=w':=of_any 3 w
theorem of_4 (w:World):Calls Tryz.prog 80 #[.int .i64 4] w fun e w'=>e=.returned (.iface 201 (.agg #[]))∧w=w':=of_any 4 w
theorem empty_any (r c:Int) (s:Value) (w:World) (hs:∃ a n k,s=.slice a n k):Calls Tryz.prog 161 #[.agg #[.int .i64 r,.int .i64 c,s]] w fun e w'=>e=.returned (.bool (decide (r=0∧c=0)))∧Below w.heap.size w w':=by
 obtain ⟨a,n,k,rfl⟩:=hs
 by_cases h1:r=0
 ·by_cases h2:c=0
  ·subst h1 h2
   rw [decide_eq_true ⟨rfl,rfl⟩]
   go_enter Tryz.func161,Tryz.ntmps161
   go_wp2
   go_ret
   exact ⟨rfl,Below.x0⟩
  ·subst h1
   rw [decide_eq_false (fun h=>h2 h.2)]
   have q:(c == 0)=false:=by simp [h2]
   clear h2
   go_enter Tryz.func161,Tryz.ntmps161
   go_wp2
   go_ret
   exact ⟨rfl,Below.x0⟩
 ·rw [decide_eq_false (fun h=>h1 h.1)]
  have q:(r == 0)=false:=by simp [h1]
  clear h1
  go_enter Tryz.func161,Tryz.ntmps161
  go_wp2
  go_ret
  exact ⟨rfl,Below.x0⟩
section
variable (l:Lay) (sw sb:Value) (w:World) (hsw:∃ a n k,sw=.slice a n k) (hsb:∃ a n k,sb=.slice a n k)
include hsw hsb
set_option maxRecDepth 100000
set_option maxHeartbeats 1000000
theorem fits_1 (hk:l.kind=1):Calls Tryz.prog 144 #[.agg #[],.agg #[.int .i64 l.kind,.int .i64 l.W.rows,.int .i64 l.W.cols,sw,.int .i64 l.B.rows,.int .i64 l.B.cols,sb]] w fun e w'=>e=.returned (.bool (decide l.fits))∧Below w.heap.size w w':=by
 have hd:decide l.fits=(decide (0<l.W.rows) && decide (0<l.W.cols) && decide (l.W.rows≤12) && (l.B.rows == 1) && (l.B.cols == l.W.cols)):=by
  rw [Bool.eq_iff_iff]
  simp only [decide_eq_true_eq,Bool.and_eq_true,beq_iff_eq]
  unfold Lay.fits
  rw [hk]
  omega
 rw [hd]
 clear hd
 obtain ⟨a,n,k,rfl⟩:=hsw
 obtain ⟨a',n',k',rfl⟩:=hsb
 generalize l.kind=kd at *
 clear hk
 generalize l.W.rows=r0 at *
 generalize l.W.cols=c0 at *
 generalize l.B.rows=r1 at *
 generalize l.B.cols=c1 at *
 cases h1:decide (0<r0)
 ·go_enter Tryz.func144,Tryz.ntmps144
  go_wp2
  go_ret
  exact ⟨by simp,Below.x0⟩
 ·cases h2:decide (0<c0)
  ·go_enter Tryz.func144,Tryz.ntmps144
   go_wp2
   go_ret
   exact ⟨by simp,Below.x0⟩
  ·cases h3:decide (r0≤12)
   ·go_enter Tryz.func144,Tryz.ntmps144
    go_wp2
    go_ret
    exact ⟨by simp,Below.x0⟩
   ·cases h4:(r1 == 1)
    ·go_enter Tryz.func144,Tryz.ntmps144
     go_wp2
     go_ret
     exact ⟨by simp,Below.x0⟩
    ·cases h5:(c1 == c0)
     all_goals
      go_enter Tryz.func144,Tryz.ntmps144
      go_wp2
      go_ret
      exact ⟨by simp,Below.x0⟩
theorem fits_2 (hk:l.kind=2):Calls Tryz.prog 158 #[.agg #[],.agg #[.int .i64 l.kind,.int .i64 l.W.rows,.int .i64 l.W.cols,sw,.int .i64 l.B.rows,.int .i64 l.B.cols,sb]] w fun e w'=>e=.returned (.bool (decide l.fits))∧Below w.heap.size w w':=by
 have hd:decide l.fits=(decide (l.W.rows=0∧l.W.cols=0) && decide (l.B.rows=0∧l.B.cols=0)):=by
  rw [Bool.eq_iff_iff]
  simp only [decide_eq_true_eq,Bool.and_eq_true,beq_iff_eq]
  unfold Lay.fits Mat.empty
  rw [hk]
  omega
 rw [hd]
 clear hd
 obtain ⟨a,n,k,rfl⟩:=hsw
 obtain ⟨a',n',k',rfl⟩:=hsb
 generalize l.kind=kd at *
 clear hk
 generalize l.W.rows=r0 at *
 generalize l.W.cols=c0 at *
 generalize l.B.rows=r1 at *
 generalize l.B.cols=c1 at *
 cases h1:decide (r0=0∧c0=0)
 ·have h1':=Lib.hid h1
  clear h1
  go_enter Tryz.func158,Tryz.ntmps158
  go_wp2_with fail
  refine (empty_any _ _ _ _ ⟨a,n,k,rfl⟩).mono ?_
  rw [h1'.out]
  rintro e w1 ⟨rfl,hb1⟩
  go_wp2
  go_ret
  exact ⟨by simp,(Below.x1 hb1)⟩
 ·cases h2:decide (r1=0∧c1=0)
  all_goals
   have h1':=Lib.hid h1
   have h2':=Lib.hid h2
   clear h1 h2
   go_enter Tryz.func158,Tryz.ntmps158
   go_wp2_with fail
   refine (empty_any _ _ _ _ ⟨a,n,k,rfl⟩).mono ?_
   rw [h1'.out]
   rintro e w1 ⟨rfl,hb1⟩
   have B2:=(Box.new' _ (w.heap.size+1) [.int .i64 kd,.int .i64 r0,.int .i64 c0,.slice a n k,.int .i64 r1,.int .i64 c1,.slice a' n' k'] 84 (by simp)).keep hb1
   have B2c:=B2.cell
   have B2f:=B2.thawed
   have B2z:=B2.lt
   have B2k:=lt_add B2z
   go_wp2_with fail
   refine (empty_any _ _ _ _ ⟨a',n',k',rfl⟩).mono ?_
   rw [h2'.out]
   rintro e w2 ⟨rfl,hb2⟩
   go_wp2
   go_ret
   exact ⟨by simp,(Below.x2 hb2 hb1)⟩
theorem fits_3 (hk:l.kind=3):Calls Tryz.prog 164 #[.agg #[],.agg #[.int .i64 l.kind,.int .i64 l.W.rows,.int .i64 l.W.cols,sw,.int .i64 l.B.rows,.int .i64 l.B.cols,sb]] w fun e w'=>e=.returned (.bool (decide l.fits))∧Below w.heap.size w w':=by
 have hd:decide l.fits=((l.W.rows == 1) && (l.W.cols == 1) && decide (l.B.rows=0∧l.B.cols=0)):=by
  rw [Bool.eq_iff_iff]
  simp only [decide_eq_true_eq,Bool.and_eq_true,beq_iff_eq]
  unfold Lay.fits Mat.empty
  rw [hk]
  omega
 rw [hd]
 clear hd
 obtain ⟨a,n,k,rfl⟩:=hsw
 obtain ⟨a',n',k',rfl⟩:=hsb
 generalize l.kind=kd at *
 clear hk
 generalize l.W.rows=r0 at *
 generalize l.W.cols=c0 at *
 generalize l.B.rows=r1 at *
 generalize l.B.cols=c1 at *
 cases h1:(r0 == 1)
 ·go_enter Tryz.func164,Tryz.ntmps164
  go_wp2
  go_ret
  exact ⟨by simp,Below.x0⟩
 ·cases h2:(c0 == 1)
  ·go_enter Tryz.func164,Tryz.ntmps164
   go_wp2
   go_ret
   exact ⟨by simp,Below.x0⟩
  ·cases h3:decide (r1=0∧c1=0)
   all_goals
    have h3':=Lib.hid h3
    clear h3
    go_enter Tryz.func164,Tryz.ntmps164
    go_wp2_with fail
    refine (empty_any _ _ _ _ ⟨a',n',k',rfl⟩).mono ?_
    rw [h3'.out]
    rintro e w1 ⟨rfl,hb1⟩
    go_wp2
    go_ret
    exact ⟨by simp,(Below.x1 hb1)⟩
theorem fits_4 (hk:l.kind=4):Calls Tryz.prog 168 #[.agg #[],.agg #[.int .i64 l.kind,.int .i64 l.W.rows,.int .i64 l.W.cols,sw,.int .i64 l.B.rows,.int .i64 l.B.cols,sb]] w fun e w'=>e=.returned (.bool (decide l.fits))∧Below w.heap.size w w':=by
 have hd:decide l.fits=(decide (l.W.rows=0∧l.W.cols=0) && (l.B.rows == 1) && decide (0<l.B.cols)):=by
  rw [Bool.eq_iff_iff]
  simp only [decide_eq_true_eq,Bool.and_eq_true,beq_iff_eq]
  unfold Lay.fits Mat.empty
  rw [hk]
  omega
 rw [hd]
 clear hd
 obtain ⟨a,n,k,rfl⟩:=hsw
 obtain ⟨a',n',k',rfl⟩:=hsb
 generalize l.kind=kd at *
 clear hk
 generalize l.W.rows=r0 at *
 generalize l.W.cols=c0 at *
 generalize l.B.rows=r1 at *
 generalize l.B.cols=c1 at *
 cases h1:decide (r0=0∧c0=0)
 ·have h1':=Lib.hid h1
  clear h1
  go_enter Tryz.func168,Tryz.ntmps168
  go_wp2_with fail
  refine (empty_any _ _ _ _ ⟨a,n,k,rfl⟩).mono ?_
  rw [h1'.out]
  rintro e w1 ⟨rfl,hb1⟩
  go_wp2
  go_ret
  exact ⟨by simp,(Below.x1 hb1)⟩
 ·cases h2:(r1 == 1)
  ·have h1':=Lib.hid h1
   clear h1
   go_enter Tryz.func168,Tryz.ntmps168
   go_wp2_with fail
   refine (empty_any _ _ _ _ ⟨a,n,k,rfl⟩).mono ?_
   rw [h1'.out]
   rintro e w1 ⟨rfl,hb1⟩
   have B2:=(Box.new' _ (w.heap.size+1) [.int .i64 kd,.int .i64 r0,.int .i64 c0,.slice a n k,.int .i64 r1,.int .i64 c1,.slice a' n' k'] 84 (by simp)).keep hb1
   have B2c:=B2.cell
   have B2f:=B2.thawed
   have B2z:=B2.lt
   have B2k:=lt_add B2z
   go_wp2
   go_ret
   exact ⟨by simp,(Below.x1 hb1)⟩
  ·cases h3:decide (0<c1)
   all_goals
    have h1':=Lib.hid h1
    clear h1
    go_enter Tryz.func168,Tryz.ntmps168
    go_wp2_with fail
    refine (empty_any _ _ _ _ ⟨a,n,k,rfl⟩).mono ?_
    rw [h1'.out]
    rintro e w1 ⟨rfl,hb1⟩
    have B2:=(Box.new' _ (w.heap.size+1) [.int .i64 kd,.int .i64 r0,.int .i64 c0,.slice a n k,.int .i64 r1,.int .i64 c1,.slice a' n' k'] 84 (by simp)).keep hb1
    have B2c:=B2.cell
    have B2f:=B2.thawed
    have B2z:=B2.lt
    have B2k:=lt_add B2z
    go_wp2
    go_ret
    exact ⟨by simp,(Below.x1 hb1)⟩
end
end Go.Proofs.YtchngeagnlngaaaGreatDoor
end
