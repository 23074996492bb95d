/- Texts joined: BaseR. -/
import Derived.Test.YtchngeagnlngaaaGreatDoorJ01
import Derived.WalkKit
import Derived.Lib.Hide
import Derived.Deep.QuietTactic
import Derived.Deep.Draws
import Derived.Outline
import Derived.Deep.AppendSrc
import Derived.Deep.AppendLies
import Derived.StillTailTactics
set_option linter.unusedVariables false
set_option linter.unusedSimpArgs false
section
section
namespace Gal
open Go Go.RowKit
structure IntsAt (w:World) (a:Option Addr) (n cap b off:Nat) (xs:List Int):Prop where
 len:xs.length=n
 le:n≤cap
 maxc:cap≤maxLen
 ptr:0<n→a=some ⟨b,off,none⟩
 lt:0<n→b<w.heap.size
 cell:∀ i,i<n→w.cell? ⟨b,off+i,none⟩=some (.int .i64 (ix xs i))
theorem IntsAt.max {w:World} {a:Option Addr} {n cap b off:Nat} {xs:List Int} (h:IntsAt w a n cap b off xs):n≤maxLen:=Nat.le_trans h.le h.maxc
theorem IntsAt.below {w w':World} {a:Option Addr} {n cap b off:Nat} {xs:List Int} (h:IntsAt w a n cap b off xs) {B:Nat} (hb:Below B w w') (hB:0<n→b<B):IntsAt w' a n cap b off xs:=
 ⟨h.len,h.le,h.maxc,h.ptr,fun hn=>Nat.lt_of_lt_of_le (h.lt hn) hb.size,fun i hi=>(hb.cell (p:=⟨b,off+i,none⟩) (hB (by omega))).trans (h.cell i hi)⟩
theorem IntsAt.alloc {w:World} {a:Option Addr} {n cap b off:Nat} {xs:List Int} (h:IntsAt w a n cap b off xs) (o:Obj):IntsAt (w.alloc o) a n cap b off xs:=
 h.below ((Below.refl w.heap.size w).alloc (Nat.le_refl _) o) h.lt
theorem IntsAt.drewN {w:World} {a:Option Addr} {n cap b off:Nat} {xs:List Int} (h:IntsAt w a n cap b off xs) (k:Nat):IntsAt (w.drewN k) a n cap b off xs:=h.below (B:=w.heap.size) ⟨rfl,rfl,rfl,Nat.le_refl _,fun _ _=>rfl⟩ h.lt
theorem IntsAt.set {w:World} {a:Option Addr} {n cap b off:Nat} {xs:List Int} (h:IntsAt w a n cap b off xs) {p:Addr} (hne:0<n→b≠p.block) (u:Value):IntsAt (w.setCell p u) a n cap b off xs:=
 ⟨h.len,h.le,h.maxc,h.ptr,fun hn=>by simpa [World.setCell] using h.lt hn,fun i hi=>(World.cell?_of_block (a:=⟨b,off+i,none⟩) (Below.heap_setCell w p u b (hne (by omega)))).trans (h.cell i hi)⟩
theorem IntsAt.of_own {w:World} {base E n:Nat} {v:Value} {xs:List Int} (h:w.ownsRow base E 1 v n (xs.map (Value.int .i64))) :
  ∃ a cap b,v=.slice a n cap∧(0<n→base≤b)∧IntsAt w a n cap b 0 xs:=by
 obtain ⟨hl,h⟩:=h
 have hl':xs.length=n:=by simpa using hl
 rcases h with ⟨rfl,rfl⟩|⟨g,cap,cur,rfl,hb,hg,hn,hm,hs,ht⟩
 ·exact ⟨none,0,0,rfl,fun h=>absurd h (Nat.lt_irrefl _),hl',Nat.le_refl _,Nat.zero_le _,fun h=>absurd h (Nat.lt_irrefl _),fun h=>absurd h (Nat.lt_irrefl _),fun i hi=>absurd hi (Nat.not_lt_zero _)⟩
 ·refine ⟨_,cap,g,rfl,fun _=>hb,hl',hn,hm,fun _=>rfl,fun _=>?_,fun i hi=>?_⟩
  ·rcases Nat.lt_or_ge g w.heap.size with h|h
   ·exact h
   ·rw [Array.getElem?_eq_none h] at hg;cases hg
  ·rw [Nat.zero_add,cell_of_row w g i cur E _ hg]
   have h1:(cur.toList.take (n*1))[i]?=(xs.map (Value.int .i64))[i]?:=by rw [ht]
   rw [List.getElem?_take_of_lt (by omega),List.getElem?_map] at h1
   have h2:xs[i]?=some (ix xs i):=by unfold ix;rw [List.getElem?_eq_getElem (by omega)];rfl
   rw [h2] at h1
   simpa using h1
def Box (w:World) (b:Nat) (cs:List Value) (t:TypeId):Prop:=w.heap[b]?=some (.cells cs.toArray t (0,0))
theorem Box.lt {w:World} {b:Nat} {cs:List Value} {t:TypeId} (h:Box w b cs t):b<w.heap.size:=by
 rcases Nat.lt_or_ge b w.heap.size with h1|h1
 ·exact h1
 ·unfold Box at h;rw [Array.getElem?_eq_none h1] at h;cases h
theorem Box.cell {w:World} {b:Nat} {cs:List Value} {t:TypeId} (h:Box w b cs t) (i:Nat):w.cell? ⟨b,i,none⟩=cs[i]?:=by
 unfold Box at h;simp [World.cell?,h]
theorem Box.thawed {w:World} {b:Nat} {cs:List Value} {t:TypeId} (h:Box w b cs t) (i:Nat):w.frozen? ⟨b,i,none⟩=false:=by
 unfold Box at h;simp [World.frozen?,h]
theorem Box.block {w w':World} {b:Nat} {cs:List Value} {t:TypeId} (h:Box w b cs t) (e:w'.heap[b]?=w.heap[b]?):Box w' b cs t:=by
 unfold Box;rw [e];exact h
theorem Box.drew {w:World} {b:Nat} {cs:List Value} {t:TypeId} (h:Box w b cs t):Box w.drew b cs t:=h
theorem Box.drewN {w:World} {b:Nat} {cs:List Value} {t:TypeId} (h:Box w b cs t) (n:Nat):Box (w.drewN n) b cs t:=h
theorem Box.alloc {w:World} {b:Nat} {cs:List Value} {t:TypeId} (h:Box w b cs t) (o:Obj):Box (w.alloc o) b cs t:=h.block (Below.heap_alloc w o b h.lt)
theorem Box.new (w:World) (cs:List Value) (t:TypeId):Box (w.alloc (.cells cs.toArray t)) w.heap.size cs t:=by
 unfold Box;exact heap_alloc_new w _
theorem Box.new' (w:World) (n:Nat) (cs:List Value) (t:TypeId) (hn:n=w.heap.size):Box (w.alloc (.cells cs.toArray t)) n cs t:=by subst hn;exact Box.new w cs t
theorem Box.below {w w':World} {b B:Nat} {cs:List Value} {t:TypeId} (h:Box w b cs t) (hb:Below B w w') (hB:b<B):Box w' b cs t:=h.block (hb.block b hB)
theorem Box.keep {w w':World} {b:Nat} {cs:List Value} {t:TypeId} (h:Box w b cs t) (hb:Below w.heap.size w w'):Box w' b cs t:=h.below hb h.lt
theorem Box.grown {w w':World} {b:Nat} {row:Option Nat} {cs:List Value} {t:TypeId} (h:Box w b cs t) (hg:w.grownBy w' row) (hne:some b≠row):Box w' b cs t:=h.block (hg.block b h.lt hne)
theorem Box.set {w:World} {b:Nat} {cs:List Value} {t:TypeId} (h:Box w b cs t) (i:Nat) (v:Value):Box (w.setCell ⟨b,i,none⟩ v) b (cs.set i v) t:=by
 unfold Box at *
 simp [World.setCell,Array.getElem?_modify,h]
theorem Box.far {w:World} {b:Nat} {cs:List Value} {t:TypeId} (h:Box w b cs t) {a:Addr} (hne:b≠a.block) (v:Value):Box (w.setCell a v) b cs t:=h.block (Below.heap_setCell w a v b hne)
theorem Box.fx {w:World} {b:Nat} {cs:List Value} {t:TypeId} {a:Addr} (h:Box w b cs t) (v:Value) (hne:b≠a.block:=by first|(dsimp only;omega)|omega|(simp;omega)|simp):Box (w.setCell a v) b cs t:=h.far hne v
theorem own_ne {w:World} {base e size n b:Nat} {v:Value} {xs cs:List Value} {t:TypeId} (h:w.ownsRow base e size v n xs) (hb:Box w b cs t) (hne:e≠t):v.ownBlock≠some b:=by
 rcases h.2 with ⟨rfl,_⟩|⟨g,cap,cur,rfl,_,hg,_⟩
 ·simp [Value.ownBlock]
 ·intro e1
  simp [Value.ownBlock] at e1
  unfold Box at hb
  rw [e1,hb] at hg
  simp at hg
  exact hne hg.2.symm
theorem own_slice {w:World} {base e size n:Nat} {v:Value} {xs:List Value} (h:w.ownsRow base e size v n xs):∃ a cap,v=.slice a n cap:=by
 rcases h.2 with ⟨rfl,rfl⟩|⟨g,cap,cur,rfl,_⟩
 ·exact ⟨none,0,rfl⟩
 ·exact ⟨_,cap,rfl⟩
theorem own_set {w:World} {base e size n:Nat} {v:Value} {xs:List Value} (h:w.ownsRow base e size v n xs) {a:Addr} (hne:v.ownBlock≠some a.block) (u:Value):(w.setCell a u).ownsRow base e size v n xs:=by
 obtain ⟨h1,h2⟩:=h
 refine ⟨h1,?_⟩
 rcases h2 with h2|⟨g,cap,cur,hv,hg,hh,r⟩
 ·exact Or.inl h2
 ·refine Or.inr ⟨g,cap,cur,hv,hg,?_,r⟩
  rw [Below.heap_setCell _ _ _ _ (by intro e1;apply hne;rw [hv,← e1];rfl)];exact hh
theorem own_made (w:World) (b base e size:Nat) (cur:Array Value) (cap:Nat) (hn:b=w.heap.size) (hb:base≤w.heap.size) (hm:cap≤maxLen) (hs:cur.size=cap*size) :
  (w.alloc (.cells cur e)).ownsRow base e size (.slice (some ⟨b,0,none⟩) 0 cap) 0 []:=by subst hn;exact World.ownsRow_made w cur cap hb hm hs
section
variable {H:Type} {P:Program}
theorem run_make_rowN (t e:TypeId) (i:TypeInfo) (z:Value) (ht:P.underlying t=some (.slice e)) (hi:P.info? e=some i) (hz:i.zero=some z)
  (kl kc:IntKind) (n c:Nat) (L C:Int) (hL:L=(n:Int)) (hC:C=(c:Int)) (hnc:n≤c) (hbytes:i.bytes*c≤281474976710656) (h63:c≤9223372036854775807) (w:World) :
  (Instr.makeSlice t (.int kl L) (.int kc C)).run P w=.ok (.slice (some ⟨w.heap.size,0,none⟩) n c) (w.alloc (.cells (madeCells z.cells (c*i.size)) e)):=by
 subst hL hC
 have hb:(i.bytes:Int)*(c:Int)≤281474976710656:=by
  have h:((i.bytes*c:Nat):Int)≤281474976710656:=by omega
  rwa [Int.natCast_mul] at h
 have hr:=run_make (P:=P) w t e i z ht hi hz kl kc n c (by omega) (by omega) hb (by omega)
 simp only [Int.toNat_natCast] at hr
 exact hr
end
theorem at_oper {P:Program} {ops:Array Oper} {a:Act} {w:World} {K:Act→World→Prop} {Q:Exit→Act→World→Prop} {E:Prop} (o:Oper)
  (h:if Region.wanted o (yielded ops a.tmps)=true then Oper.wp P o a w K Q else E):if Region.wanted o (yielded ops a.tmps)=true then Oper.wp P o a w K Q else E:=h
theorem below_drewN {B:Nat} {a w:World} (h:Below B a w) (n:Nat):Below B a (w.drewN n):=⟨h.os,h.tape,h.output,h.size,h.block⟩
theorem below_append {B n:Nat} {w wr w1:World} {o:Obj} {base e size k:Nat} {v:Value} {xs:List Value} (hb:Below B w wr) (hB:B≤wr.heap.size) (hown:wr.ownsRow base e size v k xs) (hbase:B≤base)
  (hgrow:((wr.drewN n).alloc o).grownBy w1 v.ownBlock):Below B w w1:=
 Below.grown (Below.alloc (below_drewN hb n) hB o) hgrow (by simp;omega) fun k hk=>Nat.le_trans hbase (hown.lt k hk).1
def MatAt (w:World) (v:Value) (m:Mat):Prop:=∃ a n cap b off,v=.agg #[.int .i64 m.rows,.int .i64 m.cols,.slice a n cap]∧IntsAt w a n cap b off m.cells
structure MatsAt (w:World) (a:Option Addr) (n cap b off:Nat) (ms:List Mat):Prop where
 len:ms.length=n
 le:n≤cap
 maxc:cap≤maxLen
 ptr:0<n→a=some ⟨b,off,none⟩
 lt:0<n→b<w.heap.size
 cell:∀ i,i<n→∃ a' n' cap' b' off',w.cell? ⟨b,off+i*3,none⟩=some (.int .i64 (mx ms i).rows)∧w.cell? ⟨b,off+i*3+1,none⟩=some (.int .i64 (mx ms i).cols) ∧
  w.cell? ⟨b,off+i*3+2,none⟩=some (.slice a' n' cap')∧(0<n'→b'<w.heap.size)∧IntsAt w a' n' cap' b' off' (mx ms i).cells
theorem MatsAt.max {w:World} {a:Option Addr} {n cap b off:Nat} {ms:List Mat} (h:MatsAt w a n cap b off ms):n≤maxLen:=Nat.le_trans h.le h.maxc
section
variable {P:Program} {f:FuncId} {args:Array Value} {w:World} {a n:Nat} {v:Value}
theorem quiet0 (h:∀ W,Calls P f args W fun e w'=>e=.returned v∧W=w'):Calls P f args (w.drewN n) fun e w''=>e=.returned v∧∃ m,w''=w.drewN m:=
 (h _).mono fun _ _ ⟨he,hm⟩=>⟨he,n,hm.symm⟩
theorem quiet1 (h:∀ W,Calls P f args W fun e w'=>e=.returned v∧W=w'):Calls P f args (w.drewN (a+n)) fun e w''=>e=.returned v∧∃ m,w''=w.drewN (a+m):=
 (h _).mono fun _ _ ⟨he,hm⟩=>⟨he,n,hm.symm⟩
end
theorem lt_add {b n:Nat} (h:b<n):∀ k,b<n+k:=fun k=>by omega
theorem ret_val {a b:Value} (h:a=b):Ending.returned a=.returned b:=by rw [h]
end Gal
end
section
namespace Gal
open Go Go.RowKit
theorem MatAt.mk {w:World} {a:Option Addr} {n cap b off:Nat} {xs:List Int} {r c:Int} (h:IntsAt w a n cap b off xs):MatAt w (.agg #[.int .i64 r,.int .i64 c,.slice a n cap]) ⟨r,c,xs⟩:=⟨a,n,cap,b,off,rfl,h⟩
theorem MatAt.below {w w':World} {v:Value} {m:Mat} (h:MatAt w v m) (hb:Below w.heap.size w w'):MatAt w' v m:=by
 obtain ⟨a,n,cap,b,off,rfl,hi⟩:=h
 exact ⟨a,n,cap,b,off,rfl,hi.below hb hi.lt⟩
theorem MatAt.alloc {w:World} {v:Value} {m:Mat} (h:MatAt w v m) (o:Obj):MatAt (w.alloc o) v m:=h.below ((Below.refl w.heap.size w).alloc (Nat.le_refl _) o)
theorem MatAt.drewN {w:World} {v:Value} {m:Mat} (h:MatAt w v m) (k:Nat):MatAt (w.drewN k) v m:=h.below ⟨rfl,rfl,rfl,Nat.le_refl _,fun _ _=>rfl⟩
theorem mats2 {w:World} {B:Nat} {T:TypeId} {r0 c0 r1 c1:Int} {a0 a1:Option Addr} {n0 k0 n1 k1 b0 o0 b1 o1:Nat} {xs ys:List Int}
  (hB:Box w B [.int .i64 r0,.int .i64 c0,.slice a0 n0 k0,.int .i64 r1,.int .i64 c1,.slice a1 n1 k1] T) (h0:IntsAt w a0 n0 k0 b0 o0 xs) (h1:IntsAt w a1 n1 k1 b1 o1 ys) :
  MatsAt w (some ⟨B,0,none⟩) 2 2 B 0 [⟨r0,c0,xs⟩,⟨r1,c1,ys⟩]:=by
 refine ⟨rfl,Nat.le_refl _,by unfold maxLen;omega,fun _=>rfl,fun _=>hB.lt,fun i hi=>?_⟩
 rcases (by omega:i=0∨i=1) with rfl|rfl
 ·exact ⟨a0,n0,k0,b0,o0,(hB.cell _).trans rfl,(hB.cell _).trans rfl,(hB.cell _).trans rfl,h0.lt,h0⟩
 ·exact ⟨a1,n1,k1,b1,o1,(hB.cell _).trans rfl,(hB.cell _).trans rfl,(hB.cell _).trans rfl,h1.lt,h1⟩
theorem IntsAt.keep {w w':World} {a:Option Addr} {n cap b off:Nat} {xs:List Int} (h:IntsAt w a n cap b off xs) (hb:Below w.heap.size w w'):IntsAt w' a n cap b off xs:=h.below hb h.lt
theorem IntsAt.set3 {w:World} {a:Option Addr} {n cap b off B:Nat} {xs:List Int} (h:IntsAt w a n cap b off xs) (hne:0<n→b≠B) (u v x:Value) :
  IntsAt (((w.setCell ⟨B,0,none⟩ u).setCell ⟨B,1,none⟩ v).setCell ⟨B,2,none⟩ x) a n cap b off xs:=((h.set hne u).set hne v).set hne x
theorem MatAt.set3 {w:World} {a:Option Addr} {n cap b off B:Nat} {xs:List Int} {r c:Int} (h:IntsAt w a n cap b off xs) (hne:0<n→b≠B) (u v x:Value) :
  MatAt (((w.setCell ⟨B,0,none⟩ u).setCell ⟨B,1,none⟩ v).setCell ⟨B,2,none⟩ x) (.agg #[.int .i64 r,.int .i64 c,.slice a n cap]) ⟨r,c,xs⟩:=MatAt.mk (h.set3 hne u v x)
theorem run_slice_lohi {P:Program} (w:World) (t e:TypeId) (ht:P.underlying t=some (.slice e)) (hs:∀ W,(Go.sizeOf e).run P W=.ok 1 W) {a:Option Addr} {n cap b off:Nat} {xs:List Int} (h:IntsAt w a n cap b off xs)
  (lo hi:Nat) (L H:Int) (hL:L=lo) (hH:H=hi) (h1:lo≤hi) (h2:hi≤n) :
  ∃ a',(∀ W,(Instr.slice t (.slice a n cap) (some (.int .i64 L)) (some (.int .i64 H)) none).run P W=.ok (.slice a' (hi - lo) (cap - lo)) W)∧IntsAt w a' (hi - lo) (cap - lo) b (off+lo) (piece xs lo hi):=by
 subst hL hH
 have hle:=h.le
 refine ⟨if cap=lo then a else a.map (·.add lo),fun W=>?_,?_⟩
 ·have s1:∀ W,(Instr.sliceBound (.int .i64 (hi:Int)) cap .sliceAcap).run P W=.ok hi W:=fun W=>by
   have:=run_sliceBound (P:=P) W .i64 hi cap .sliceAcap (by omega) (by omega)
   simpa using this
  have s2:∀ W,(Instr.sliceBound (.int .i64 (lo:Int)) hi .sliceB).run P W=.ok lo W:=fun W=>by
   have:=run_sliceBound (P:=P) W .i64 lo hi .sliceB (by omega) (by omega)
   simpa using this
  simp [Instr.slice,Instr.sliceBounds,run_underlying ht,s1,s2,hs]
 ·refine ⟨by rw [piece_length (by rw [h.len];exact h2)],by omega,by have:=h.maxc;omega,fun hn=>?_,fun hn=>h.lt (by omega),fun i hi'=>?_⟩
  ·rw [if_neg (by omega),h.ptr (by omega)]
   simp only [Option.map_some,Option.some.injEq]
   unfold Addr.add
   by_cases h0:lo=0
   ·subst h0;simp
   ·rw [if_neg h0]
  ·rw [piece_ix hi',← h.cell _ (by omega),Nat.add_assoc]
theorem IntsAt.news {w:World} {A:Addr} {n cap b off:Nat} {xs:List Int} (h:IntsAt w (some A) n cap b off xs):∀ j u,(xs.map (Value.int .i64))[j]?=some u→w.cell? (A.add j)=some u:=by
 intro j u hu
 have hl:=h.len
 have hj:j<xs.length:=by
  rcases Nat.lt_or_ge j xs.length with h1|h1
  ·exact h1
  ·rw [List.getElem?_eq_none (by simpa using h1)] at hu;cases hu
 have hp:=h.ptr (by omega)
 cases hp
 have hadd:(⟨b,off,none⟩:Addr).add j=⟨b,off+j,none⟩:=by unfold Addr.add;split <;> simp_all
 rw [hadd,h.cell j (by omega),← hu]
 unfold ix
 rw [List.getElem?_map,List.getElem?_eq_getElem hj]
 rfl
theorem ints_one (xs:List Int):∀ u ∈ xs.map (Value.int .i64),u.oneCell'=true:=by
 intro u hu
 obtain ⟨x,_,rfl⟩:=List.mem_map.1 hu
 rfl
end Gal
namespace Go.RowKit
open Gal
theorem Below.al {w w':World} (h:Below w.heap.size w w') (o:Obj):Below w.heap.size w (w'.alloc o):=h.alloc h.size o
theorem Below.go {w w' w'':World} (h:Below w.heap.size w w') (k:Below w'.heap.size w' w''):Below w.heap.size w w'':=h.trans (k.mono h.size)
theorem Below.st {w w':World} (h:Below w.heap.size w w') {p:Addr} (hp:w.heap.size≤p.block) (u:Value):Below w.heap.size w (w'.setCell p u):=h.setCell hp u
theorem Below.sx {w w':World} {p:Addr} (h:Below w.heap.size w w') (u:Value) (hp:w.heap.size≤p.block:=by first|(dsimp only;omega)|omega|(simp;omega)|simp):Below w.heap.size w (w'.setCell p u):=h.st hp u
theorem Below.drN {w w':World} (h:Below w.heap.size w w') (n:Nat):Below w.heap.size w (w'.drewN n):=below_drewN h n
def Below.T (B:Nat) (a b:World):Prop:=B≤a.heap.size→Below B a b∧B≤b.heap.size
theorem Below.T.refl (B:Nat) (a:World):Below.T B a a:=fun h=>⟨Below.refl _ _,h⟩
theorem Below.T.al {B:Nat} {a b:World} (h:Below.T B a b) (o:Obj):Below.T B a (b.alloc o):=fun hB=>⟨(h hB).1.alloc (h hB).2 o,Nat.le_trans (h hB).2 ((Below.refl b.heap.size b).alloc (Nat.le_refl _) o).size⟩
theorem Below.T.drN {B:Nat} {a b:World} (h:Below.T B a b) (n:Nat):Below.T B a (b.drewN n):=fun hB=>⟨below_drewN (h hB).1 n,(h hB).2⟩
theorem Below.T.drew {B:Nat} {a b:World} (h:Below.T B a b):Below.T B a b.drew:=h.drN 1
theorem Below.T.sx {B:Nat} {a b:World} {p:Addr} (h:Below.T B a b) (u:Value) (hp:B≤p.block:=by first|(dsimp only;omega)|omega|(simp;omega)|simp):Below.T B a (b.setCell p u):=fun hB=>⟨(h hB).1.setCell hp u,by have:=(h hB).2;simpa [World.setCell] using this⟩
theorem Below.x0 {w w':World} (h:Below w.heap.size w w':=by repeat (first|(with_reducible first|exact Below.refl _ _|refine Below.al ?_ _|refine Below.drN ?_ _|refine Below.drew ?_|refine Below.sx ?_ _)|exact Below.refl _ _)):Below w.heap.size w w':=h
theorem Below.x1 {w a b w':World} (k:Below a.heap.size a b) (h:Below.T w.heap.size b w':=by repeat (first|(with_reducible first|exact Below.T.refl _ _|refine Below.T.al ?_ _|refine Below.T.drN ?_ _|refine Below.T.drew ?_|refine Below.T.sx ?_ _)|exact Below.T.refl _ _)) (g:Below w.heap.size w a:=by repeat (first|(with_reducible first|exact Below.refl _ _|refine Below.al ?_ _|refine Below.drN ?_ _|refine Below.drew ?_|refine Below.sx ?_ _)|exact Below.refl _ _)):Below w.heap.size w w':=(g.go k).trans (h (g.go k).size).1
theorem Below.x2 {w a b c d w':World} (k:Below c.heap.size c d) (l:Below a.heap.size a b) (h:Below.T w.heap.size d w':=by repeat (first|(with_reducible first|exact Below.T.refl _ _|refine Below.T.al ?_ _|refine Below.T.drN ?_ _|refine Below.T.drew ?_|refine Below.T.sx ?_ _)|exact Below.T.refl _ _)) (g:Below.T w.heap.size b c:=by repeat (first|(with_reducible first|exact Below.T.refl _ _|refine Below.T.al ?_ _|refine Below.T.drN ?_ _|refine Below.T.drew ?_|refine Below.T.sx ?_ _)|exact Below.T.refl _ _)) (f:Below w.heap.size w a:=by repeat (first|(with_reducible first|exact Below.refl _ _|refine Below.al ?_ _|refine Below.drN ?_ _|refine Below.drew ?_|refine Below.sx ?_ _)|exact Below.refl _ _)):Below w.heap.size w w':=by
 have q:=(f.go l).trans (g (f.go l).size).1
 exact (q.go k).trans (h (q.go k).size).1
theorem Below.y0 {w a w':World} (k:Below w.heap.size w a) (h:Below.T w.heap.size a w':=by repeat (first|(with_reducible first|exact Below.T.refl _ _|refine Below.T.al ?_ _|refine Below.T.drN ?_ _|refine Below.T.drew ?_|refine Below.T.sx ?_ _)|exact Below.T.refl _ _)):Below w.heap.size w w':=k.trans (h k.size).1
theorem Below.y1 {w a b c w':World} (l:Below b.heap.size b c) (k:Below w.heap.size w a) (h:Below.T w.heap.size c w':=by repeat (first|(with_reducible first|exact Below.T.refl _ _|refine Below.T.al ?_ _|refine Below.T.drN ?_ _|refine Below.T.drew ?_|refine Below.T.sx ?_ _)|exact Below.T.refl _ _)) (g:Below.T w.heap.size a b:=by repeat (first|(with_reducible first|exact Below.T.refl _ _|refine Below.T.al ?_ _|refine Below.T.drN ?_ _|refine Below.T.drew ?_|refine Below.T.sx ?_ _)|exact Below.T.refl _ _)):Below w.heap.size w w':=by
 have q:=k.trans (g k.size).1
 exact (q.go l).trans (h (q.go l).size).1
theorem Box.x0 {w:World} {b:Nat} {cs:List Value} {t:TypeId} (h:Box w b cs t:=by repeat (first|(with_reducible first|(refine (Box.new' _ _ _ _ ?_);(simp;done))|refine Box.alloc ?_ _|refine Box.drewN ?_ _|refine Box.drew ?_|refine Box.fx ?_ _))):Box w b cs t:=h
def Same (b:Nat) (a w:World):Prop:=b<a.heap.size→w.heap[b]?=a.heap[b]?∧b<w.heap.size
theorem Same.refl (b:Nat) (a:World):Same b a a:=fun h=>⟨rfl,h⟩
theorem Same.al {b:Nat} {a w:World} (h:Same b a w) (o:Obj):Same b a (w.alloc o):=fun hb=>⟨(Below.heap_alloc w o b (h hb).2).trans (h hb).1,Nat.lt_of_lt_of_le (h hb).2 ((Below.refl w.heap.size w).alloc (Nat.le_refl _) o).size⟩
theorem Same.drN {b:Nat} {a w:World} (h:Same b a w) (n:Nat):Same b a (w.drewN n):=fun hb=>⟨(h hb).1,(h hb).2⟩
theorem Same.drew {b:Nat} {a w:World} (h:Same b a w):Same b a w.drew:=h.drN 1
theorem Same.sx {b:Nat} {a w:World} {p:Addr} (h:Same b a w) (u:Value) (hne:b≠p.block:=by first|(dsimp only;omega)|omega|(simp;omega)|simp):Same b a (w.setCell p u):=fun hb=>⟨(Below.heap_setCell w p u b hne).trans (h hb).1,by have:=(h hb).2;simpa [World.setCell] using this⟩
theorem Same.go {b:Nat} {a x y w:World} (g:Same b a x) (hb:Below x.heap.size x y) (h:Same b y w):Same b a w:=fun hl=>by
 have h1:=g hl
 have h2:=h (Nat.lt_of_lt_of_le h1.2 hb.size)
 exact ⟨h2.1.trans ((hb.block b h1.2).trans h1.1),h2.2⟩
end Go.RowKit
namespace Gal
open Go Go.RowKit
theorem Box.k {a w:World} {b:Nat} {cs:List Value} {t:TypeId} (k:Box a b cs t) (h:Same b a w:=by repeat (first|(with_reducible first|exact Same.refl _ _|refine Same.al ?_ _|refine Same.drN ?_ _|refine Same.drew ?_|refine Same.sx ?_ _)|exact Same.refl _ _)):Box w b cs t:=k.block (h k.lt).1
theorem Box.k1 {a x y w:World} {b:Nat} {cs:List Value} {t:TypeId} (k:Box a b cs t) (hb:Below x.heap.size x y) (h:Same b y w:=by repeat (first|(with_reducible first|exact Same.refl _ _|refine Same.al ?_ _|refine Same.drN ?_ _|refine Same.drew ?_|refine Same.sx ?_ _)|exact Same.refl _ _)) (g:Same b a x:=by repeat (first|(with_reducible first|exact Same.refl _ _|refine Same.al ?_ _|refine Same.drN ?_ _|refine Same.drew ?_|refine Same.sx ?_ _)|exact Same.refl _ _)):Box w b cs t:=k.block ((g.go hb h) k.lt).1
theorem IntsAt.k {a w:World} {p:Option Addr} {n cap b off:Nat} {xs:List Int} (k:IntsAt a p n cap b off xs) (h:0<n→Same b a w:=by intro h0;repeat (first|(with_reducible first|exact Same.refl _ _|refine Same.al ?_ _|refine Same.drN ?_ _|refine Same.drew ?_|refine Same.sx ?_ _)|exact Same.refl _ _)):IntsAt w p n cap b off xs:=
 ⟨k.len,k.le,k.maxc,k.ptr,fun hn=>(h hn (k.lt hn)).2,fun i hi=>(World.cell?_of_block (a:=⟨b,off+i,none⟩) (h (by omega) (k.lt (by omega))).1).trans (k.cell i hi)⟩
theorem IntsAt.k1 {a x y w:World} {p:Option Addr} {n cap b off:Nat} {xs:List Int} (k:IntsAt a p n cap b off xs) (hb:Below x.heap.size x y) (h:0<n→Same b y w:=by intro h0;repeat (first|(with_reducible first|exact Same.refl _ _|refine Same.al ?_ _|refine Same.drN ?_ _|refine Same.drew ?_|refine Same.sx ?_ _)|exact Same.refl _ _)) (g:0<n→Same b a x:=by intro h0;repeat (first|(with_reducible first|exact Same.refl _ _|refine Same.al ?_ _|refine Same.drN ?_ _|refine Same.drew ?_|refine Same.sx ?_ _)|exact Same.refl _ _)):IntsAt w p n cap b off xs:=k.k (fun hn=>(g hn).go hb (h hn))
end Gal
namespace Go.RowKit
open Gal
end Go.RowKit
end
section
namespace Gal
open Go Go.RowKit
section
variable {P:Program} {w:World}
theorem run_append_nil_src (base:Nat) (t ty e:TypeId) (i:TypeInfo) (size:Nat) (ht:P.underlying t=some (.slice e)) (hi:P.info? e=some i) (hsize:i.size=size)
  (v:Value) (n:Nat) (xs:List Value) (hown:w.ownsRow base e size v n xs) (c:Nat) :
  (Builtin.append_ #[t,t] ty #[v,.slice none 0 c]).run P w=.ok v w:=by
 rcases hown.2 with ⟨rfl,rfl⟩|⟨g,cap,cur,rfl,_,hg,hn,_,_,_⟩
 ·simp [Builtin.append_,run_underlying ht,Go.sizeOf,typeInfo,hi,Builtin.lenOf,Builtin.firstCells,loadCells,loadCellsFrom]
 ·have hr:=run_append_room_src (P:=P) w t t ty e i ht hi g 0 n cap (.slice none 0 c) 0 [] (Src.ofNil w ht c) (by omega) (fun j hj=>absurd hj (Nat.not_lt_zero _)) (fun j hj=>absurd hj (Nat.not_lt_zero _))
  simpa [World.setCells] using hr
theorem wp_append_ints {o:Oper} {a:Act} {K:Act→World→Prop} {Q:Exit→Act→World→Prop} (s x:Operand) (t:TypeId)
  (ho:o.op=.call { callee:=.builtin .append,args:=#[s,x],argTypes:=#[t,t] })
  (base:Nat) (e:TypeId) (i:TypeInfo) (ht:P.underlying t=some (.slice e)) (hi:P.info? e=some i) (hz:i.zero=some (.int .i64 0))
  (hsize:i.size=1) (hby:i.bytes=8)
  (v:Value) (n:Nat) (xs:List Int) (hs:a.eval s=v) (hown:w.ownsRow base e 1 v n (xs.map (Value.int .i64)))
  (a':Option Addr) (n' cap' b' off':Nat) (ys:List Int) (hx:a.eval x=.slice a' n' cap') (hy:IntsAt w a' n' cap' b' off' ys)
  (hbytes:(n+n')*8≤140737488355328) (hbase:base≤w.heap.size)
  (h:∀ v' w',w'.ownsRow base e 1 v' (n+n') ((xs++ys).map (Value.int .i64))→w.grownBy w' v.ownBlock→K (a.put o.dst v') w'):o.wp P a w K Q:=by
 cases a' with
 | some A=>
  refine wp_append_own w s x t ho base e i (.int .i64 0) 1 8 ht hi hz hsize hby rfl (by decide) v n _ hs hown A n' cap' (ys.map (Value.int .i64)) hx (by rw [List.length_map,hy.len,Nat.mul_one]) hy.news (ints_one ys)
   (by unfold maxLen;omega) hbytes hbase fun v' w' h2 h3 _=>h v' w' (by rw [List.map_append];exact h2) h3
 | none=>
  have h0:n'=0:=by
   rcases Nat.eq_zero_or_pos n' with h0|h0
   ·exact h0
   ·have:=hy.ptr h0;cases this
  subst h0
  have hr:=run_append_nil_src (P:=P) base t o.type e i 1 ht hi hsize v n _ hown cap'
  have hl:=hy.len
  obtain rfl:ys=[]:=List.eq_nil_of_length_eq_zero hl
  unfold Oper.wp execOp
  simp only [ho,resolve,invoke,builtin,Sem.run_bind,Sem.run_pure,Result.andThen_ok,List.map_toArray,List.map_cons,List.map_nil,hs,hx,hr]
  exact h v w (by rw [List.append_nil];exact hown) ⟨rfl,rfl,rfl,Nat.le_refl _,fun _ _ _=>rfl⟩
theorem wpList_append_ints {ops:Array Oper} {rest:List Oper} {o:Oper} {a:Act} {Q:Exit→Act→World→Prop} (hgd:o.guard=none) (s x:Operand) (t:TypeId)
  (ho:o.op=.call { callee:=.builtin .append,args:=#[s,x],argTypes:=#[t,t] })
  (base:Nat) (e:TypeId) (i:TypeInfo) (ht:P.underlying t=some (.slice e)) (hi:P.info? e=some i) (hz:i.zero=some (.int .i64 0))
  (hsize:i.size=1) (hby:i.bytes=8)
  (v:Value) (n:Nat) (xs:List Int) (hs:a.eval s=v) (hown:w.ownsRow base e 1 v n (xs.map (Value.int .i64)))
  (a':Option Addr) (n' cap' b' off':Nat) (ys:List Int) (hx:a.eval x=.slice a' n' cap') (hy:IntsAt w a' n' cap' b' off' ys)
  (hbytes:(n+n')*8≤140737488355328) (hbase:base≤w.heap.size)
  (h:∀ v' w',w'.ownsRow base e 1 v' (n+n') ((xs++ys).map (Value.int .i64))→w.grownBy w' v.ownBlock→wpList P ops Q rest (a.put o.dst v') w'):wpList P ops Q (o :: rest) a w:=
 wpList_plain hgd fun _ hK=>wp_append_ints s x t ho base e i ht hi hz hsize hby v n xs hs hown a' n' cap' b' off' ys hx hy hbytes hbase fun v' w' h2 h3=>hK _ _ (h v' w' h2 h3)
end
theorem MatsAt.keep {w w':World} {a:Option Addr} {n cap b off:Nat} {ms:List Mat} (h:MatsAt w a n cap b off ms) (hb:Below w.heap.size w w'):MatsAt w' a n cap b off ms:=by
 refine ⟨h.len,h.le,h.maxc,h.ptr,fun hn=>Nat.lt_of_lt_of_le (h.lt hn) hb.size,fun i hi=>?_⟩
 have hlt:=h.lt (by omega)
 obtain ⟨a',n',cap',b',off',m0,m1,m2,hb',hi'⟩:=h.cell i hi
 exact ⟨a',n',cap',b',off',(hb.cell (p:=⟨b,_,none⟩) hlt).trans m0,(hb.cell (p:=⟨b,_,none⟩) hlt).trans m1,(hb.cell (p:=⟨b,_,none⟩) hlt).trans m2,fun h0=>Nat.lt_of_lt_of_le (hb' h0) hb.size,hi'.keep hb⟩
def MatNew (base:Nat) (w:World) (v:Value) (m:Mat):Prop:=∃ a n cap b off,v=.agg #[.int .i64 m.rows,.int .i64 m.cols,.slice a n cap]∧(0<n→base≤b)∧IntsAt w a n cap b off m.cells
theorem MatNew.at {base:Nat} {w:World} {v:Value} {m:Mat} (h:MatNew base w v m):MatAt w v m:=by
 obtain ⟨a,n,cap,b,off,h1,_,h2⟩:=h
 exact ⟨a,n,cap,b,off,h1,h2⟩
theorem MatNew.mk {base:Nat} {w:World} {a:Option Addr} {n cap b off:Nat} {xs:List Int} {r c:Int} (hb:0<n→base≤b) (h:IntsAt w a n cap b off xs):MatNew base w (.agg #[.int .i64 r,.int .i64 c,.slice a n cap]) ⟨r,c,xs⟩:=⟨a,n,cap,b,off,rfl,hb,h⟩
end Gal
end
section
namespace Gal
open Go Go.RowKit
theorem heap_lt {w:World} {b:Nat} {o:Obj} (h:w.heap[b]?=some o):b<w.heap.size:=by
 rcases Nat.lt_or_ge b w.heap.size with h1|h1
 ·exact h1
 ·rw [Array.getElem?_eq_none h1] at h;cases h
theorem lt_of_heap {w w':World} {b:Nat} (h:b<w.heap.size) (he:w'.heap[b]?=w.heap[b]?):b<w'.heap.size:=by
 rw [Array.getElem?_eq_getElem h] at he
 exact heap_lt he
structure Form (α:Type) where
 size:Nat
 reads:World→(Nat→Prop)→List Value→α→Prop
 len:∀ {w F cs x},reads w F cs x→cs.length=size
 one:∀ {w F cs x},reads w F cs x→∀ u ∈ cs,u.oneCell'=true
 wide:∀ {w F G cs x},(∀ b,F b→b<w.heap.size→G b)→reads w F cs x→reads w G cs x
 keep:∀ {w w' F cs x},(∀ b,F b→b<w.heap.size→w'.heap[b]?=w.heap[b]?)→reads w F cs x→reads w' F cs x
def anyB (b:Nat):Prop:=True
def newB (base:Nat) (b:Nat):Prop:=base≤b
def Form.int:Form Int where
 size:=1
 reads:=fun _ _ cs x=>cs=[.int .i64 x]
 len:=fun h=>by rw [h];rfl
 one:=fun h u hu=>by rw [h] at hu;simp at hu;rw [hu];rfl
 wide:=fun _ h=>h
 keep:=fun _ h=>h
def Form.and {α β:Type} (f:Form α) (g:Form β):Form (α × β) where
 size:=f.size+g.size
 reads:=fun w F cs x=>∃ c d,cs=c++d∧f.reads w F c x.1∧g.reads w F d x.2
 len:=fun ⟨c,d,e,h,k⟩=>by rw [e,List.length_append,f.len h,g.len k]
 one:=fun ⟨c,d,e,h,k⟩ u hu=>by
  rw [e] at hu
  rcases List.mem_append.1 hu with h1|h1
  ·exact f.one h u h1
  ·exact g.one k u h1
 wide:=fun hF ⟨c,d,e,h,k⟩=>⟨c,d,e,f.wide hF h,g.wide hF k⟩
 keep:=fun hF ⟨c,d,e,h,k⟩=>⟨c,d,e,f.keep hF h,g.keep hF k⟩
def Form.as {α β:Type} (f:Form α) (mk:α→β):Form β where
 size:=f.size
 reads:=fun w F cs y=>∃ x,f.reads w F cs x∧mk x=y
 len:=fun ⟨x,h,_⟩=>f.len h
 one:=fun ⟨x,h,_⟩=>f.one h
 wide:=fun hF ⟨x,h,e⟩=>⟨x,f.wide hF h,e⟩
 keep:=fun hF ⟨x,h,e⟩=>⟨x,f.keep hF h,e⟩
structure RowAt {α:Type} (f:Form α) (w:World) (F:Nat→Prop) (a:Option Addr) (n cap b off:Nat) (xs:List α):Prop where
 len:xs.length=n
 le:n≤cap
 maxc:cap≤maxLen
 ptr:0<n→a=some ⟨b,off,none⟩
 lt:0<n→b<w.heap.size
 blk:0<n→F b
 cell:∀ i x,xs[i]?=some x→∃ cs,f.reads w F cs x∧∀ j,j<f.size→w.cell? ⟨b,off+i*f.size+j,none⟩=cs[j]?
theorem RowAt.max {α:Type} {f:Form α} {w:World} {F:Nat→Prop} {a:Option Addr} {n cap b off:Nat} {xs:List α} (h:RowAt f w F a n cap b off xs):n≤maxLen:=Nat.le_trans h.le h.maxc
theorem RowAt.wide {α:Type} {f:Form α} {w:World} {F G:Nat→Prop} {a:Option Addr} {n cap b off:Nat} {xs:List α} (hF:∀ b,F b→b<w.heap.size→G b) (h:RowAt f w F a n cap b off xs):RowAt f w G a n cap b off xs:=
 ⟨h.len,h.le,h.maxc,h.ptr,h.lt,fun hn=>hF _ (h.blk hn) (h.lt hn),fun i x hx=>by
  obtain ⟨cs,h1,h2⟩:=h.cell i x hx
  exact ⟨cs,f.wide hF h1,h2⟩⟩
theorem RowAt.kept {α:Type} {f:Form α} {w w':World} {F:Nat→Prop} {a:Option Addr} {n cap b off:Nat} {xs:List α} (hF:∀ b,F b→b<w.heap.size→w'.heap[b]?=w.heap[b]?) (h:RowAt f w F a n cap b off xs):RowAt f w' F a n cap b off xs:=
 ⟨h.len,h.le,h.maxc,h.ptr,fun hn=>lt_of_heap (h.lt hn) (hF _ (h.blk hn) (h.lt hn)),h.blk,fun i x hx=>by
  have hi:i<xs.length:=by
   rcases Nat.lt_or_ge i xs.length with h1|h1
   ·exact h1
   ·rw [List.getElem?_eq_none h1] at hx;cases hx
  have hn:0<n:=by have:=h.len;omega
  obtain ⟨cs,h1,h2⟩:=h.cell i x hx
  exact ⟨cs,f.keep hF h1,fun j hj=>(World.cell?_of_block (a:=⟨b,off+i*f.size+j,none⟩) (hF _ (h.blk hn) (h.lt hn))).trans (h2 j hj)⟩⟩
theorem RowAt.keep {α:Type} {f:Form α} {w w':World} {F:Nat→Prop} {a:Option Addr} {n cap b off:Nat} {xs:List α} (h:RowAt f w F a n cap b off xs) (hb:Below w.heap.size w w'):RowAt f w' F a n cap b off xs:=
 h.kept fun k _ hk=>hb.block k hk
theorem RowAt.alloc {α:Type} {f:Form α} {w:World} {F:Nat→Prop} {a:Option Addr} {n cap b off:Nat} {xs:List α} (h:RowAt f w F a n cap b off xs) (o:Obj):RowAt f (w.alloc o) F a n cap b off xs:=
 h.keep ((Below.refl w.heap.size w).alloc (Nat.le_refl _) o)
theorem RowAt.drewN {α:Type} {f:Form α} {w:World} {F:Nat→Prop} {a:Option Addr} {n cap b off:Nat} {xs:List α} (h:RowAt f w F a n cap b off xs) (k:Nat):RowAt f (w.drewN k) F a n cap b off xs:=
 h.keep ⟨rfl,rfl,rfl,Nat.le_refl _,fun _ _=>rfl⟩
theorem RowAt.nil {α:Type} (f:Form α) (w:World) (F:Nat→Prop):RowAt f w F none 0 0 0 0 ([]:List α):=
 ⟨rfl,Nat.le_refl _,Nat.zero_le _,fun h=>absurd h (Nat.lt_irrefl _),fun h=>absurd h (Nat.lt_irrefl _),fun h=>absurd h (Nat.lt_irrefl _),fun i x hx=>by cases hx⟩
def Form.slice {α:Type} (f:Form α):Form (List α) where
 size:=1
 reads:=fun w F cs xs=>∃ a n cap b off,cs=[.slice a n cap]∧RowAt f w F a n cap b off xs
 len:=fun ⟨a,n,cap,b,off,e,h⟩=>by rw [e];rfl
 one:=fun ⟨a,n,cap,b,off,e,h⟩ u hu=>by rw [e] at hu;simp at hu;rw [hu];rfl
 wide:=fun hF ⟨a,n,cap,b,off,e,h⟩=>⟨a,n,cap,b,off,e,h.wide hF⟩
 keep:=fun hF ⟨a,n,cap,b,off,e,h⟩=>⟨a,n,cap,b,off,e,h.kept hF⟩
def Form.mat:Form Mat where
 size:=3
 reads:=fun w F cs m=>∃ a n cap b off,cs=[.int .i64 m.rows,.int .i64 m.cols,.slice a n cap]∧(0<n→F b)∧IntsAt w a n cap b off m.cells
 len:=fun ⟨a,n,cap,b,off,e,_,h⟩=>by rw [e];rfl
 one:=fun ⟨a,n,cap,b,off,e,_,h⟩ u hu=>by
  rw [e] at hu
  simp at hu
  rcases hu with rfl|rfl|rfl <;> rfl
 wide:=fun hF ⟨a,n,cap,b,off,e,hb,h⟩=>⟨a,n,cap,b,off,e,fun hn=>hF _ (hb hn) (h.lt hn),h⟩
 keep:=fun {w w' F cs x} hF ⟨a,n,cap,b,off,e,hb,h⟩=>⟨a,n,cap,b,off,e,hb,⟨h.len,h.le,h.maxc,h.ptr,fun hn=>lt_of_heap (h.lt hn) (hF _ (hb hn) (h.lt hn)),fun i hi=>
  (World.cell?_of_block (a:=⟨b,off+i,none⟩) (hF _ (hb (by omega)) (h.lt (by omega)))).trans (h.cell i hi)⟩⟩
def At {α:Type} (f:Form α) (w:World) (F:Nat→Prop) (v:Value) (x:α):Prop:=∃ cs,v=.agg cs.toArray∧f.reads w F cs x
theorem At.keep {α:Type} {f:Form α} {w w':World} {F:Nat→Prop} {v:Value} {x:α} (h:At f w F v x) (hb:Below w.heap.size w w'):At f w' F v x:=by
 obtain ⟨cs,e,h⟩:=h
 exact ⟨cs,e,f.keep (fun k _ hk=>hb.block k hk) h⟩
theorem At.wide {α:Type} {f:Form α} {w:World} {F G:Nat→Prop} {v:Value} {x:α} (hF:∀ b,F b→b<w.heap.size→G b) (h:At f w F v x):At f w G v x:=by
 obtain ⟨cs,e,h⟩:=h
 exact ⟨cs,e,f.wide hF h⟩
theorem At.mat {w:World} {F:Nat→Prop} {v:Value} {m:Mat} (h:At Form.mat w F v m):MatAt w v m:=by
 obtain ⟨cs,rfl,a,n,cap,b,off,rfl,_,h⟩:=h
 exact ⟨a,n,cap,b,off,rfl,h⟩
theorem MatAt.at {w:World} {v:Value} {m:Mat} (h:MatAt w v m):At Form.mat w anyB v m:=by
 obtain ⟨a,n,cap,b,off,rfl,h⟩:=h
 exact ⟨_,rfl,a,n,cap,b,off,rfl,fun _=>trivial,h⟩
theorem RowAt.mats {w:World} {F:Nat→Prop} {a:Option Addr} {n cap b off:Nat} {ms:List Mat} (h:RowAt Form.mat w F a n cap b off ms):MatsAt w a n cap b off ms:=by
 refine ⟨h.len,h.le,h.maxc,h.ptr,h.lt,fun i hi=>?_⟩
 have hx:ms[i]?=some (mx ms i):=by unfold mx;rw [List.getElem?_eq_getElem (by have:=h.len;omega)];rfl
 obtain ⟨cs,⟨a',n',cap',b',off',rfl,hb',hi'⟩,hc⟩:=h.cell i _ hx
 exact ⟨a',n',cap',b',off',hc 0 (by decide),hc 1 (by decide),hc 2 (by decide),hi'.lt,hi'⟩
theorem RowAt.ints {w:World} {F:Nat→Prop} {a:Option Addr} {n cap b off:Nat} {xs:List Int} (h:RowAt Form.int w F a n cap b off xs):IntsAt w a n cap b off xs:=by
 refine ⟨h.len,h.le,h.maxc,h.ptr,h.lt,fun i hi=>?_⟩
 have hx:xs[i]?=some (ix xs i):=by unfold ix;rw [List.getElem?_eq_getElem (by have:=h.len;omega)];rfl
 obtain ⟨cs,rfl,hc⟩:=h.cell i _ hx
 simpa [Form.int] using hc 0 (by decide)
theorem IntsAt.row {w:World} {F:Nat→Prop} {a:Option Addr} {n cap b off:Nat} {xs:List Int} (h:IntsAt w a n cap b off xs) (hF:0<n→F b):RowAt Form.int w F a n cap b off xs:=by
 refine ⟨h.len,h.le,h.maxc,h.ptr,h.lt,hF,fun i x hx=>⟨_,rfl,fun j hj=>?_⟩⟩
 have hi:i<xs.length:=by
  rcases Nat.lt_or_ge i xs.length with h1|h1
  ·exact h1
  ·rw [List.getElem?_eq_none h1] at hx;cases hx
 have hc:=h.cell i (by have:=h.len;omega)
 obtain rfl:j=0:=by simp [Form.int] at hj;exact hj
 unfold ix at hc
 rw [hx] at hc
 simpa [Form.int] using hc
def Flat {α:Type} (f:Form α) (w:World) (F:Nat→Prop):List Value→List α→Prop
 | cs,[]=>cs=[]
 | cs,x :: xs=>∃ c d,cs=c++d∧f.reads w F c x∧Flat f w F d xs
theorem Flat.len {α:Type} {f:Form α} {w:World} {F:Nat→Prop} {xs:List α}:∀ {cs:List Value},Flat f w F cs xs→cs.length=xs.length*f.size:=by
 induction xs with
 | nil=>intro cs h;rw [show cs=[] from h];simp
 | cons x xs ih=>
  rintro cs ⟨c,d,rfl,h,k⟩
  rw [List.length_append,ih k,f.len h,List.length_cons,Nat.succ_mul,Nat.add_comm]
theorem Flat.one {α:Type} {f:Form α} {w:World} {F:Nat→Prop} {xs:List α}:∀ {cs:List Value},Flat f w F cs xs→∀ u ∈ cs,u.oneCell'=true:=by
 induction xs with
 | nil=>intro cs h u hu;rw [show cs=[] from h] at hu;cases hu
 | cons x xs ih=>
  rintro cs ⟨c,d,rfl,h,k⟩ u hu
  rcases List.mem_append.1 hu with h1|h1
  ·exact f.one h u h1
  ·exact ih k u h1
theorem Flat.kept {α:Type} {f:Form α} {w w':World} {F:Nat→Prop} (hF:∀ b,F b→b<w.heap.size→w'.heap[b]?=w.heap[b]?) {xs:List α}:∀ {cs:List Value},Flat f w F cs xs→Flat f w' F cs xs:=by
 induction xs with
 | nil=>intro cs h;exact h
 | cons x xs ih=>rintro cs ⟨c,d,rfl,h,k⟩;exact ⟨c,d,rfl,f.keep hF h,ih k⟩
theorem Flat.wide {α:Type} {f:Form α} {w:World} {F G:Nat→Prop} (hF:∀ b,F b→b<w.heap.size→G b) {xs:List α}:∀ {cs:List Value},Flat f w F cs xs→Flat f w G cs xs:=by
 induction xs with
 | nil=>intro cs h;exact h
 | cons x xs ih=>rintro cs ⟨c,d,rfl,h,k⟩;exact ⟨c,d,rfl,f.wide hF h,ih k⟩
theorem Flat.append {α:Type} {f:Form α} {w:World} {F:Nat→Prop} {xs ys:List α}:∀ {cs ds:List Value},Flat f w F cs xs→Flat f w F ds ys→Flat f w F (cs++ds) (xs++ys):=by
 induction xs with
 | nil=>intro cs ds h k;rw [show cs=[] from h];exact k
 | cons x xs ih=>rintro cs ds ⟨c,d,rfl,h,h'⟩ k;exact ⟨c,d++ds,by rw [List.append_assoc],h,ih h' k⟩
theorem Flat.single {α:Type} {f:Form α} {w:World} {F:Nat→Prop} {c:List Value} {x:α} (h:f.reads w F c x):Flat f w F c [x]:=⟨c,[],by simp,h,rfl⟩
theorem Flat.snoc {α:Type} {f:Form α} {w:World} {F:Nat→Prop} {xs:List α} {cs c:List Value} {x:α} (h:Flat f w F cs xs) (k:f.reads w F c x):Flat f w F (cs++c) (xs++[x]):=h.append (.single k)
theorem Flat.at {α:Type} {f:Form α} {w:World} {F:Nat→Prop} {xs:List α}:∀ {cs:List Value},Flat f w F cs xs→∀ i x,xs[i]?=some x→∃ c,f.reads w F c x∧∀ j,j<f.size→cs[i*f.size+j]?=c[j]?:=by
 induction xs with
 | nil=>intro cs h i x hx;cases hx
 | cons y xs ih=>
  rintro cs ⟨c,d,rfl,h,k⟩ i x hx
  cases i with
  | zero=>
   simp at hx
   subst hx
   exact ⟨c,h,fun j hj=>by rw [Nat.zero_mul,Nat.zero_add,List.getElem?_append_left (by rw [f.len h];exact hj)]⟩
  | succ i=>
   simp at hx
   obtain ⟨c',h1,h2⟩:=ih k i x hx
   refine ⟨c',h1,fun j hj=>?_⟩
   rw [← h2 j hj,Nat.succ_mul,List.getElem?_append_right (by rw [f.len h];omega),f.len h]
   congr 1
   omega
theorem Flat.ints {w:World} {F:Nat→Prop} {xs:List Int}:Flat Form.int w F (xs.map (Value.int .i64)) xs:=by
 induction xs with
 | nil=>rfl
 | cons x xs ih=>exact ⟨[.int .i64 x],_,rfl,rfl,ih⟩
structure OwnRow {α:Type} (f:Form α) (E:TypeId) (w:World) (base:Nat) (F:Nat→Prop) (v:Value) (xs:List α):Prop where
 holds:∃ cs,w.ownsRow base E f.size v xs.length cs∧Flat f w (fun b=>F b∧v.ownBlock≠some b) cs xs
theorem OwnRow.nil {α:Type} (f:Form α) (E:TypeId) (w:World) (base:Nat) (F:Nat→Prop):OwnRow f E w base F (.slice none 0 0) ([]:List α):=⟨[],World.ownsRow_nil _ _ _ _,rfl⟩
theorem OwnRow.slice {α:Type} {f:Form α} {E:TypeId} {w:World} {base:Nat} {F:Nat→Prop} {v:Value} {xs:List α} (h:OwnRow f E w base F v xs):∃ a cap,v=.slice a xs.length cap:=by
 obtain ⟨cs,h,_⟩:=h.holds
 exact own_slice h
theorem OwnRow.base_le {α:Type} {f:Form α} {E:TypeId} {w:World} {base:Nat} {F:Nat→Prop} {v:Value} {xs:List α} (h:OwnRow f E w base F v xs):∀ k,v.ownBlock=some k→base≤k∧k<w.heap.size:=by
 obtain ⟨cs,h,_⟩:=h.holds
 exact fun k hk=>h.lt k hk
theorem OwnRow.kept {α:Type} {f:Form α} {E:TypeId} {w w':World} {base:Nat} {F:Nat→Prop} {v:Value} {xs:List α} (h:OwnRow f E w base F v xs)
  (hv:∀ b,v.ownBlock=some b→w'.heap[b]?=w.heap[b]?) (hF:∀ b,F b→v.ownBlock≠some b→b<w.heap.size→w'.heap[b]?=w.heap[b]?):OwnRow f E w' base F v xs:=by
 obtain ⟨cs,⟨h1,h2⟩,k⟩:=h.holds
 refine ⟨cs,⟨h1,?_⟩,Flat.kept (fun b hb hl=>hF b hb.1 hb.2 hl) k⟩
 rcases h2 with h2|⟨g,cap,cur,e,hb,hg,r⟩
 ·exact Or.inl h2
 ·exact Or.inr ⟨g,cap,cur,e,hb,by rw [hv g (by rw [e];rfl)];exact hg,r⟩
theorem OwnRow.keep {α:Type} {f:Form α} {E:TypeId} {w w':World} {base:Nat} {F:Nat→Prop} {v:Value} {xs:List α} (h:OwnRow f E w base F v xs) (hb:Below w.heap.size w w'):OwnRow f E w' base F v xs:=
 h.kept (fun b hv=>hb.block b (h.base_le b hv).2) (fun b _ _ hl=>hb.block b hl)
theorem OwnRow.wide {α:Type} {f:Form α} {E:TypeId} {w:World} {base:Nat} {F G:Nat→Prop} {v:Value} {xs:List α} (hF:∀ b,F b→b<w.heap.size→G b) (h:OwnRow f E w base F v xs):OwnRow f E w base G v xs:=by
 obtain ⟨cs,h1,k⟩:=h.holds
 exact ⟨cs,h1,Flat.wide (fun b hb hl=>⟨hF b hb.1 hl,hb.2⟩) k⟩
theorem OwnRow.set {α:Type} {f:Form α} {E:TypeId} {w:World} {base:Nat} {F:Nat→Prop} {v:Value} {xs:List α} (h:OwnRow f E w base F v xs) {a:Addr} (hv:v.ownBlock≠some a.block) (hF:¬ F a.block) (u:Value):OwnRow f E (w.setCell a u) base F v xs:=
 h.kept (fun b hb=>Below.heap_setCell w a u b (fun e=>hv (by rw [hb,e]))) (fun b hb _ _=>Below.heap_setCell w a u b (fun e=>hF (by rw [← e];exact hb)))
theorem OwnRow.ne_box {α:Type} {f:Form α} {E:TypeId} {w:World} {base:Nat} {F:Nat→Prop} {v:Value} {xs:List α} (h:OwnRow f E w base F v xs) {b:Nat} {cs:List Value} {t:TypeId} (hb:Box w b cs t) (hne:E≠t):v.ownBlock≠some b:=by
 obtain ⟨ds,h1,k⟩:=h.holds
 exact own_ne h1 hb hne
theorem OwnRow.grown {α:Type} {f:Form α} {E:TypeId} {w w':World} {base:Nat} {F:Nat→Prop} {v:Value} {xs:List α} {row:Option Nat} (h:OwnRow f E w base F v xs) (hg:w.grownBy w' row) (hv:∀ b,v.ownBlock=some b→some b≠row) (hF:∀ b,F b→v.ownBlock≠some b→some b≠row):OwnRow f E w' base F v xs:=
 h.kept (fun b hb=>hg.block b (h.base_le b hb).2 (hv b hb)) (fun b hb hb' hl=>hg.block b hl (hF b hb hb'))
theorem OwnRow.row {α:Type} {f:Form α} {E:TypeId} {w:World} {base:Nat} {F G:Nat→Prop} {v:Value} {xs:List α} (h:OwnRow f E w base F v xs) (hF:∀ b,F b→b<w.heap.size→G b) (hG:∀ b,base≤b→G b) :
  ∃ a cap b,v=.slice a xs.length cap∧(0<xs.length→base≤b)∧RowAt f w G a xs.length cap b 0 xs:=by
 obtain ⟨cs,⟨hl,h⟩,k⟩:=h.holds
 rcases h with ⟨rfl,h0⟩|⟨g,cap,cur,rfl,hb,hg,hn,hm,hs,ht⟩
 ·obtain rfl:=List.eq_nil_of_length_eq_zero h0
  exact ⟨none,0,0,rfl,fun h=>absurd h (Nat.lt_irrefl _),RowAt.nil f w G⟩
 ·refine ⟨_,cap,g,rfl,fun _=>hb,rfl,hn,hm,fun _=>rfl,fun _=>heap_lt hg,fun _=>hG _ hb,fun i x hx=>?_⟩
  obtain ⟨c,h1,h2⟩:=k.at i x hx
  have hi:i<xs.length:=by
   rcases Nat.lt_or_ge i xs.length with h1|h1
   ·exact h1
   ·rw [List.getElem?_eq_none h1] at hx;cases hx
  refine ⟨c,f.wide (fun b hb hl=>hF b hb.1 hl) h1,fun j hj=>?_⟩
  have hij:i*f.size+j<xs.length*f.size:=by
   have:=Nat.mul_le_mul_right f.size (show i+1≤xs.length by omega)
   rw [Nat.succ_mul] at this
   omega
  rw [Nat.zero_add,cell_of_row w g _ cur E _ hg,← h2 j hj,← ht,List.getElem?_take_of_lt hij]
  simp
section
variable {P:Program} {w:World}
theorem wp_push {α:Type} {o:Oper} {a:Act} {K:Act→World→Prop} {Q:Exit→Act→World→Prop} (s x:Operand) (t:TypeId)
  (ho:o.op=.call { callee:=.builtin .append,args:=#[s,x],argTypes:=#[t,t] })
  (f:Form α) (base:Nat) (F:Nat→Prop) (e:TypeId) (i:TypeInfo) (z:Value) (bytes:Nat) (ht:P.underlying t=some (.slice e)) (hi:P.info? e=some i) (hz:i.zero=some z)
  (hsize:i.size=f.size) (hby:i.bytes=bytes) (hzs:z.cells.size=f.size) (hsz:0<f.size)
  (v:Value) (xs:List α) (hs:a.eval s=v) (hown:OwnRow f e w base F v xs)
  (b c:Nat) (cs:List Value) (te:TypeId) (y:α) (hx:a.eval x=.slice (some ⟨b,0,none⟩) 1 c) (hbox:Box w b cs te) (hr:f.reads w (fun b=>F b∧v.ownBlock≠some b) cs y)
  (hbytes:(xs.length+1)*bytes≤140737488355328) (hlen:xs.length+1≤maxLen) (hbase:base≤w.heap.size) (H:Nat) (hH:w.heap.size=H)
  (h:∀ g cap w',OwnRow f e w' base F (.slice (some ⟨g,0,none⟩) (xs.length+1) cap) (xs++[y])→w.grownBy w' v.ownBlock→(v.ownBlock=some g∨g=H)→g<w'.heap.size→K (a.put o.dst (.slice (some ⟨g,0,none⟩) (xs.length+1) cap)) w'):o.wp P a w K Q:=by
 obtain ⟨ds,hown1,hfl⟩:=hown.holds
 refine wp_append_lies w s x t ho base e i z f.size bytes ht hi hz hsize hby hzs hsz v xs.length ds hs hown1 ⟨b,0,none⟩ 1 c cs hx (by rw [f.len hr,Nat.one_mul]) (fun j u hu=>World.news_of_block hbox j u (by simpa using hu)) (f.one hr) (by decide) hlen hbytes hbase H hH fun g cap w' h2 h3 h4 h5=>h g cap w' ⟨_,by simpa using h2,?_⟩ h3 h4 h5
 have hw:∀ b',(F b'∧v.ownBlock≠some b')→b'<w.heap.size→(F b'∧v.ownBlock≠some b')∧b'≠g:=fun b' hb' hl=>⟨hb',fun e1=>by
  subst e1
  rcases h4 with h4|h4
  ·exact hb'.2 h4
  ·omega⟩
 have hk:∀ b',(F b'∧v.ownBlock≠some b')∧b'≠g→b'<w.heap.size→w'.heap[b']?=w.heap[b']?:=fun b' hb' hl=>h3.block b' hl (fun e1=>hb'.1.2 e1.symm)
 have hq:∀ W:World,∀ b',(F b'∧v.ownBlock≠some b')∧b'≠g→b'<W.heap.size→F b'∧(Value.slice (some ⟨g,0,none⟩) (xs.length+1) cap).ownBlock≠some b':=fun W b' hb' _=>⟨hb'.1.1,fun e1=>hb'.2 (by simp [Value.ownBlock] at e1;exact e1.symm)⟩
 exact (((hfl.wide hw).kept hk).wide (hq _)).snoc (f.wide (hq _) (f.keep hk (f.wide hw hr)))
theorem wpList_push {α:Type} {ops:Array Oper} {rest:List Oper} {o:Oper} {a:Act} {Q:Exit→Act→World→Prop} (hgd:o.guard=none) (s x:Operand) (t:TypeId)
  (ho:o.op=.call { callee:=.builtin .append,args:=#[s,x],argTypes:=#[t,t] })
  (f:Form α) (base:Nat) (F:Nat→Prop) (e:TypeId) (i:TypeInfo) (z:Value) (bytes:Nat) (ht:P.underlying t=some (.slice e)) (hi:P.info? e=some i) (hz:i.zero=some z)
  (hsize:i.size=f.size) (hby:i.bytes=bytes) (hzs:z.cells.size=f.size) (hsz:0<f.size)
  (v:Value) (xs:List α) (hs:a.eval s=v) (hown:OwnRow f e w base F v xs)
  (b c:Nat) (cs:List Value) (te:TypeId) (y:α) (hx:a.eval x=.slice (some ⟨b,0,none⟩) 1 c) (hbox:Box w b cs te) (hr:f.reads w (fun b=>F b∧v.ownBlock≠some b) cs y)
  (hbytes:(xs.length+1)*bytes≤140737488355328) (hlen:xs.length+1≤maxLen) (hbase:base≤w.heap.size) (H:Nat) (hH:w.heap.size=H)
  (h:∀ g cap w',OwnRow f e w' base F (.slice (some ⟨g,0,none⟩) (xs.length+1) cap) (xs++[y])→w.grownBy w' v.ownBlock→(v.ownBlock=some g∨g=H)→g<w'.heap.size→wpList P ops Q rest (a.put o.dst (.slice (some ⟨g,0,none⟩) (xs.length+1) cap)) w'):wpList P ops Q (o :: rest) a w:=
 wpList_plain hgd fun _ hK=>wp_push s x t ho f base F e i z bytes ht hi hz hsize hby hzs hsz v xs hs hown b c cs te y hx hbox hr hbytes hlen hbase H hH fun g cap w' h2 h3 h4 h5=>hK _ _ (h g cap w' h2 h3 h4 h5)
end
end Gal
end
section
namespace Gal
open Go Go.RowKit
structure Far (S:Nat→Prop) (w w':World):Prop where
 os:w'.os=w.os
 tape:w'.tape=w.tape
 output:w'.output=w.output
 size:w.heap.size≤w'.heap.size
 block:∀ k,k<w.heap.size→¬ S k→w'.heap[k]?=w.heap[k]?
theorem Far.refl (S:Nat→Prop) (w:World):Far S w w:=⟨rfl,rfl,rfl,Nat.le_refl _,fun _ _ _=>rfl⟩
theorem Far.wide {S T:Nat→Prop} {w w':World} (h:Far S w w') (hS:∀ k,k<w.heap.size→S k→T k):Far T w w':=⟨h.os,h.tape,h.output,h.size,fun k hk hT=>h.block k hk (fun hs=>hT (hS k hk hs))⟩
theorem Far.trans {S:Nat→Prop} {a b c:World} (h:Far S a b) (k:Far S b c):Far S a c:=
 ⟨k.os.trans h.os,k.tape.trans h.tape,k.output.trans h.output,Nat.le_trans h.size k.size,fun i hi hs=>(k.block i (Nat.lt_of_lt_of_le hi h.size) hs).trans (h.block i hi hs)⟩
theorem Far.below {S:Nat→Prop} {w w' w'':World} (h:Far S w w') {B:Nat} (hb:Below B w' w'') (hB:∀ k,k<w.heap.size→¬ S k→k<B):Far S w w'':=
 ⟨hb.os.trans h.os,hb.tape.trans h.tape,hb.output.trans h.output,Nat.le_trans h.size hb.size,fun k hk hs=>(hb.block k (hB k hk hs)).trans (h.block k hk hs)⟩
theorem Far.go {S:Nat→Prop} {w w' w'':World} (h:Far S w w') (hb:Below w'.heap.size w' w''):Far S w w'':=h.below hb fun k hk _=>Nat.lt_of_lt_of_le hk h.size
theorem Far.al {S:Nat→Prop} {w w':World} (h:Far S w w') (o:Obj):Far S w (w'.alloc o):=h.go ((Below.refl w'.heap.size w').alloc (Nat.le_refl _) o)
theorem Far.drN {S:Nat→Prop} {w w':World} (h:Far S w w') (n:Nat):Far S w (w'.drewN n):=h.go ⟨rfl,rfl,rfl,Nat.le_refl _,fun _ _=>rfl⟩
theorem Far.drew {S:Nat→Prop} {w w':World} (h:Far S w w'):Far S w w'.drew:=h.drN 1
theorem Far.st {S:Nat→Prop} {w w':World} (h:Far S w w') {a:Addr} (ha:a.block<w.heap.size→S a.block) (u:Value):Far S w (w'.setCell a u):=
 ⟨h.os,h.tape,h.output,by simpa [World.setCell] using h.size,fun k hk hs=>(Below.heap_setCell w' a u k (fun e=>hs (by rw [e];exact ha (by rw [← e];exact hk)))).trans (h.block k hk hs)⟩
theorem Far.grown {S:Nat→Prop} {w w' w'':World} {row:Option Nat} (h:Far S w w') (hg:w'.grownBy w'' row) (hr:∀ k,row=some k→k<w.heap.size→S k):Far S w w'':=
 ⟨hg.os.trans h.os,hg.tape.trans h.tape,hg.output.trans h.output,Nat.le_trans h.size hg.size,fun k hk hs=>(hg.block k (Nat.lt_of_lt_of_le hk h.size) (fun e=>hs (hr k e.symm hk))).trans (h.block k hk hs)⟩
theorem Far.of_below {S:Nat→Prop} {w w':World} (h:Below w.heap.size w w'):Far S w w':=(Far.refl S w).go h
theorem Far.toBelow {S:Nat→Prop} {a w w':World} {B:Nat} (h:Below B a w) (hf:Far S w w') (hB:B≤w.heap.size) (hS:∀ k,S k→B≤k):Below B a w':=
 h.trans ⟨hf.os,hf.tape,hf.output,hf.size,fun k hk=>hf.block k (by omega) (fun hs=>by have:=hS k hs;omega)⟩
theorem Box.farS {S:Nat→Prop} {w w':World} {b:Nat} {cs:List Value} {t:TypeId} (h:Box w b cs t) (hf:Far S w w') (hs:¬ S b):Box w' b cs t:=h.block (hf.block b h.lt hs)
theorem IntsAt.farS {S:Nat→Prop} {w w':World} {a:Option Addr} {n cap b off:Nat} {xs:List Int} (h:IntsAt w a n cap b off xs) (hf:Far S w w') (hs:0<n→¬ S b):IntsAt w' a n cap b off xs:=
 ⟨h.len,h.le,h.maxc,h.ptr,fun hn=>Nat.lt_of_lt_of_le (h.lt hn) hf.size,fun i hi=>(World.cell?_of_block (a:=⟨b,off+i,none⟩) (hf.block b (h.lt (by omega)) (hs (by omega)))).trans (h.cell i hi)⟩
theorem reads_farS {α:Type} {f:Form α} {S:Nat→Prop} {w w':World} {F:Nat→Prop} {cs:List Value} {x:α} (h:f.reads w F cs x) (hf:Far S w w') (hs:∀ b,F b→b<w.heap.size→¬ S b):f.reads w' F cs x:=f.keep (fun k hk hl=>hf.block k hl (hs k hk hl)) h
theorem RowAt.farS {α:Type} {f:Form α} {S:Nat→Prop} {w w':World} {F:Nat→Prop} {a:Option Addr} {n cap b off:Nat} {xs:List α} (h:RowAt f w F a n cap b off xs) (hf:Far S w w') (hs:∀ b,F b→b<w.heap.size→¬ S b):RowAt f w' F a n cap b off xs:=
 h.kept fun k hk hl=>hf.block k hl (hs k hk hl)
theorem OwnRow.farS {α:Type} {f:Form α} {E:TypeId} {S:Nat→Prop} {w w':World} {base:Nat} {F:Nat→Prop} {v:Value} {xs:List α} (h:OwnRow f E w base F v xs) (hf:Far S w w')
  (hv:∀ b,v.ownBlock=some b→¬ S b) (hs:∀ b,F b→v.ownBlock≠some b→b<w.heap.size→¬ S b):OwnRow f E w' base F v xs:=
 h.kept (fun b hb=>hf.block b (h.base_le b hb).2 (hv b hb)) (fun b hb hb' hl=>hf.block b hl (hs b hb hb' hl))
theorem Box.icell {w:World} {b:Nat} {xs:List Int} {t:TypeId} (h:Box w b (xs.map (Value.int .i64)) t) {k:Nat} (hk:k<xs.length):w.cell? ⟨b,k,none⟩=some (.int .i64 (ix xs k)):=by
 rw [h.cell,List.getElem?_map,List.getElem?_eq_getElem hk]
 unfold ix
 rw [List.getElem?_eq_getElem hk]
 rfl
theorem Box.iset {w:World} {b:Nat} {xs:List Int} {t:TypeId} (h:Box w b (xs.map (Value.int .i64)) t) (k:Nat) (x:Int):Box (w.setCell ⟨b,k,none⟩ (.int .i64 x)) b ((xs.set k x).map (Value.int .i64)) t:=by
 rw [List.map_set]
 exact h.set k _
theorem still0 {P:Program} {f:FuncId} {args:Array Value} {w:World} {v:Value} (h:Calls P f args w fun e w'=>e=.returned v∧w=w'):Calls P f args w fun e w'=>e=.returned v∧w'=w:=h.mono fun _ _ ⟨he,hw⟩=>⟨he,hw.symm⟩
end Gal
end
section
namespace Gal
open Go Go.RowKit
variable {w:World} {b c d:Nat} {t u s:TypeId}
theorem IntsAt.drew {a:Option Addr} {n cap o:Nat} {xs:List Int} (h:IntsAt w a n cap b o xs):IntsAt w.drew a n cap b o xs:=h.drewN 1
theorem cells33 {x y z x' y' z':Value} (h:Box w b [x,y,z] t) (k:Box w c [x',y',z'] u) :
  w.cell? ⟨b,0,none⟩=some x∧w.cell? ⟨b,1,none⟩=some y∧w.cell? ⟨b,2,none⟩=some z∧w.cell? ⟨c,0,none⟩=some x'∧w.cell? ⟨c,1,none⟩=some y'∧w.cell? ⟨c,2,none⟩=some z':=
 ⟨h.cell 0,h.cell 1,h.cell 2,k.cell 0,k.cell 1,k.cell 2⟩
theorem cells333 {x y z x' y' z' x2 y2 z2:Value} (h:Box w b [x,y,z] t) (k:Box w c [x',y',z'] u) (l:Box w d [x2,y2,z2] s) :
  w.cell? ⟨b,0,none⟩=some x∧w.cell? ⟨b,1,none⟩=some y∧w.cell? ⟨b,2,none⟩=some z∧w.cell? ⟨c,0,none⟩=some x'∧w.cell? ⟨c,1,none⟩=some y'∧w.cell? ⟨c,2,none⟩=some z' ∧
  w.cell? ⟨d,0,none⟩=some x2∧w.cell? ⟨d,1,none⟩=some y2∧w.cell? ⟨d,2,none⟩=some z2:=
 ⟨h.cell 0,h.cell 1,h.cell 2,k.cell 0,k.cell 1,k.cell 2,l.cell 0,l.cell 1,l.cell 2⟩
theorem cells36 {x y z x0 x1 x2 x3 x4 x5:Value} (h:Box w b [x,y,z] t) (k:Box w c [x0,x1,x2,x3,x4,x5] u) :
  w.cell? ⟨b,0,none⟩=some x∧w.cell? ⟨b,1,none⟩=some y∧w.cell? ⟨b,2,none⟩=some z∧w.cell? ⟨c,0,none⟩=some x0∧w.cell? ⟨c,1,none⟩=some x1∧w.cell? ⟨c,2,none⟩=some x2 ∧
  w.cell? ⟨c,3,none⟩=some x3∧w.cell? ⟨c,4,none⟩=some x4∧w.cell? ⟨c,5,none⟩=some x5:=
 ⟨h.cell 0,h.cell 1,h.cell 2,k.cell 0,k.cell 1,k.cell 2,k.cell 3,k.cell 4,k.cell 5⟩
theorem cells733 {v0 v1 v2 v3 v4 v5 v6 x y z x' y' z':Value} (h:Box w b [v0,v1,v2,v3,v4,v5,v6] t) (k:Box w c [x,y,z] u) (l:Box w d [x',y',z'] s) :
  w.cell? ⟨b,0,none⟩=some v0∧w.cell? ⟨b,1,none⟩=some v1∧w.cell? ⟨b,2,none⟩=some v2∧w.cell? ⟨b,3,none⟩=some v3∧w.cell? ⟨b,4,none⟩=some v4∧w.cell? ⟨b,5,none⟩=some v5∧w.cell? ⟨b,6,none⟩=some v6 ∧
  w.cell? ⟨c,0,none⟩=some x∧w.cell? ⟨c,1,none⟩=some y∧w.cell? ⟨c,2,none⟩=some z∧w.cell? ⟨d,0,none⟩=some x'∧w.cell? ⟨d,1,none⟩=some y'∧w.cell? ⟨d,2,none⟩=some z':=
 ⟨h.cell 0,h.cell 1,h.cell 2,h.cell 3,h.cell 4,h.cell 5,h.cell 6,k.cell 0,k.cell 1,k.cell 2,l.cell 0,l.cell 1,l.cell 2⟩
end Gal
namespace Gal
open Go Go.RowKit
theorem Box.set3z {w:World} {b:Nat} {t:TypeId} (h:Box w b [.int .i64 0,.int .i64 0,.slice none 0 0] t) (x y z:Value) :
  Box (((w.setCell ⟨b,0,none⟩ x).setCell ⟨b,1,none⟩ y).setCell ⟨b,2,none⟩ z) b [x,y,z] t:=((h.set 0 x).set 1 y).set 2 z
theorem Box.set6z {w:World} {b:Nat} {t:TypeId} (h:Box w b [.int .i64 0,.int .i64 0,.slice none 0 0,.int .i64 0,.int .i64 0,.slice none 0 0] t) (x0 x1 x2 x3 x4 x5:Value) :
  Box ((((((w.setCell ⟨b,0,none⟩ x0).setCell ⟨b,1,none⟩ x1).setCell ⟨b,2,none⟩ x2).setCell ⟨b,3,none⟩ x3).setCell ⟨b,4,none⟩ x4).setCell ⟨b,5,none⟩ x5) b [x0,x1,x2,x3,x4,x5] t:=
 (((((h.set 0 x0).set 1 x1).set 2 x2).set 3 x3).set 4 x4).set 5 x5
end Gal
end
section
namespace Gal
open Go Go.RowKit
theorem IntsAt.c0 {w:World} {a:Option Addr} {n cap b o:Nat} {xs:List Int} (h:IntsAt w a n cap b o xs) (hn:0<n):w.cell? ⟨b,o,none⟩=some (.int .i64 (ix xs 0)):=h.cell 0 hn
theorem cells371 {w:World} {b c d o:Nat} {t u:TypeId} {x y z v0 v1 v2 v3 v4 v5 v6 v:Value} (h:Box w b [x,y,z] t) (k:Box w c [v0,v1,v2,v3,v4,v5,v6] u) (l:w.cell? ⟨d,o,none⟩=some v) :
  w.cell? ⟨b,0,none⟩=some x∧w.cell? ⟨b,1,none⟩=some y∧w.cell? ⟨b,2,none⟩=some z∧w.cell? ⟨c,3,none⟩=some v3∧w.cell? ⟨d,o,none⟩=some v:=
 ⟨h.cell 0,h.cell 1,h.cell 2,k.cell 3,l⟩
end Gal
end
end
