/- Texts joined: Two, OpenS, Grow. -/
import Derived.Test.YtchngeagnlngaaaGreatDoorJ08
import Derived.Test.YtchngeagnlngaaaGreatDoorJ39
import Derived.Test.YtchngeagnlngaaaGreatDoorJ03
import Derived.Test.YtchngeagnlngaaaGreatDoorJ05
import Derived.BigQuiet
set_option linter.unusedVariables false
set_option linter.unusedSimpArgs false
set_option linter.unusedSectionVars false
section
namespace Gal
open Go Go.RowKit
structure TwoRows (E:Nat→Prop) (w:World) (base:Nat) (tL tG:TypeId) (vN:Value) (N:List Lay) (vV:Value) (V:List Grd):Prop where
 own1:OwnRow Form.lay tL w base E vN N
 own2:OwnRow Form.grd tG w base E vV V
 ext:∀ b,E b→b<w.heap.size∧base≤b∧vN.ownBlock≠some b∧vV.ownBlock≠some b
section
variable {E:Nat→Prop} {w w':World} {base:Nat} {tL tG:TypeId} {vN vV:Value} {N N':List Lay} {V V':List Grd}
theorem TwoRows.nil (w:World) (base:Nat) (tL tG:TypeId):TwoRows (fun _=>False) w base tL tG (.slice none 0 0) [] (.slice none 0 0) []:=⟨OwnRow.nil _ _ _ _ _,OwnRow.nil _ _ _ _ _,fun _ h=>h.elim⟩
theorem TwoRows.farS {S:Nat→Prop} (h:TwoRows E w base tL tG vN N vV V) (hf:Far S w w') (hS:∀ k,S k→k<base):TwoRows E w' base tL tG vN N vV V:=
  ⟨h.own1.farS hf (fun k hk hh=>by have:=(h.own1.base_le k hk).1;have:=hS k hh;omega) (fun k hk _ _ hh=>by have:=(h.ext k hk).2.1;have:=hS k hh;omega),
   h.own2.farS hf (fun k hk hh=>by have:=(h.own2.base_le k hk).1;have:=hS k hh;omega) (fun k hk _ _ hh=>by have:=(h.ext k hk).2.1;have:=hS k hh;omega),
   fun b hb=>⟨Nat.lt_of_lt_of_le (h.ext b hb).1 hf.size,(h.ext b hb).2⟩⟩
theorem TwoRows.farO {S:Nat→Prop} {m:Nat} (h:TwoRows E w base tL tG vN N vV V) (hf:Far S w w') (h1:∀ k,vN.ownBlock=some k→base≤k∧k<m) (h2:∀ k,vV.ownBlock=some k→base≤k∧k<m) (h3:∀ k,E k→k<m) (hS:∀ k,S k→m≤k):TwoRows E w' base tL tG vN N vV V:=
  ⟨h.own1.farS hf (fun k hk hh=>by have:=(h1 k hk).2;have:=hS k hh;omega) (fun k hk _ _ hh=>by have:=h3 k hk;have:=hS k hh;omega),
   h.own2.farS hf (fun k hk hh=>by have:=(h2 k hk).2;have:=hS k hh;omega) (fun k hk _ _ hh=>by have:=h3 k hk;have:=hS k hh;omega),
   fun b hb=>⟨Nat.lt_of_lt_of_le (h.ext b hb).1 hf.size,(h.ext b hb).2⟩⟩
theorem TwoRows.keep (h:TwoRows E w base tL tG vN N vV V) (hb:Below w.heap.size w w'):TwoRows E w' base tL tG vN N vV V:=h.farS (S:=fun _=>False) (Far.of_below hb) (fun _ hh=>hh.elim)
theorem TwoRows.set (h:TwoRows E w base tL tG vN N vV V) {a:Addr} (ha:a.block<base) (u:Value):TwoRows E (w.setCell a u) base tL tG vN N vV V:=
 h.farS (S:=fun y=>y=a.block) ((Far.refl (fun y=>y=a.block) w).st (a:=a) (fun _=>rfl) u) (fun k hk=>by rw [hk];exact ha)
theorem TwoRows.more {P:Nat→Prop} {m:Nat} (h:TwoRows E w base tL tG vN N vV V) (hm1:∀ b,vN.ownBlock=some b→b<m) (hm2:∀ b,vV.ownBlock=some b→b<m) (hbm:base≤m) (hP:∀ b,P b→b<w.heap.size∧m≤b):TwoRows (fun b=>E b∨P b) w base tL tG vN N vV V:=
 ⟨h.own1.wide (fun b hb _=>Or.inl hb),h.own2.wide (fun b hb _=>Or.inl hb),fun b hb=>by
  rcases hb with hb|hb
  ·exact h.ext b hb
  ·have h1:=hP b hb
   exact ⟨h1.1,by omega,fun e=>by have:=hm1 b e;omega,fun e=>by have:=hm2 b e;omega⟩⟩
theorem TwoRows.first {g m cap:Nat} (h:TwoRows E w base tL tG vN N vV V) (hne:tL≠tG) (ho:OwnRow Form.lay tL w' base E (.slice (some ⟨g,0,none⟩) m cap) N') (hg:w.grownBy w' vN.ownBlock) (hl:vN.ownBlock=some g∨w.heap.size≤g):TwoRows E w' base tL tG (.slice (some ⟨g,0,none⟩) m cap) N' vV V:=by
 have hap:=h.own1.apart h.own2 hne
 refine ⟨ho,h.own2.grown hg (fun b hb e=>hap b e.symm hb) (fun b hb _ e=>(h.ext b hb).2.2.1 e.symm),fun b hb=>?_⟩
 obtain ⟨e1,e2,e3,e4⟩:=h.ext b hb
 refine ⟨Nat.lt_of_lt_of_le e1 hg.size,e2,fun e=>?_,e4⟩
 simp only [Value.ownBlock,Option.some.injEq] at e
 rcases hl with hl|hl
 ·exact e3 (by rw [hl,e])
 ·omega
theorem TwoRows.second {g m cap:Nat} (h:TwoRows E w base tL tG vN N vV V) (hne:tL≠tG) (ho:OwnRow Form.grd tG w' base E (.slice (some ⟨g,0,none⟩) m cap) V') (hg:w.grownBy w' vV.ownBlock) (hl:vV.ownBlock=some g∨w.heap.size≤g):TwoRows E w' base tL tG vN N (.slice (some ⟨g,0,none⟩) m cap) V':=by
 have hap:=h.own1.apart h.own2 hne
 refine ⟨h.own1.grown hg (fun b hb e=>hap b hb e.symm) (fun b hb _ e=>(h.ext b hb).2.2.2 e.symm),ho,fun b hb=>?_⟩
 obtain ⟨e1,e2,e3,e4⟩:=h.ext b hb
 refine ⟨Nat.lt_of_lt_of_le e1 hg.size,e2,e3,fun e=>?_⟩
 simp only [Value.ownBlock,Option.some.injEq] at e
 rcases hl with hl|hl
 ·exact e4 (by rw [hl,e])
 ·omega
end
end Gal
end
section
namespace Gal
open Go Go.RowKit
def Form.sta:Form Sta:=(Form.lay.slice.and (Form.grd.slice.and Form.int)).as fun x=>⟨x.1,x.2.1,x.2.2⟩
def StaV (w:World) (v:Value) (s:Sta):Prop:=∃ a0 n k0 b0 o0 a1 n1 k1 b1 o1,v=.agg #[.slice a0 n k0,.slice a1 n1 k1,.int .i64 s.steps]∧RowAt Form.lay w anyB a0 n k0 b0 o0 s.N∧RowAt Form.grd w anyB a1 n1 k1 b1 o1 s.V
theorem sta_reads {w:World} {cs:List Value} {s:Sta} (h:Form.sta.reads w anyB cs s):∃ a0 n k0 b0 o0 a1 n1 k1 b1 o1,cs=[.slice a0 n k0,.slice a1 n1 k1,.int .i64 s.steps]∧RowAt Form.lay w anyB a0 n k0 b0 o0 s.N∧RowAt Form.grd w anyB a1 n1 k1 b1 o1 s.V:=by
 obtain ⟨⟨N,V,st⟩,⟨c0,c1,rfl,⟨a0,n,k0,b0,o0,h0,hr0⟩,c2,c3,rfl,⟨a1,n1,k1,b1,o1,h1,hr1⟩,h2⟩,rfl⟩:=h
 simp only at h0 h1 h2
 rw [h0,h1,h2]
 exact ⟨a0,n,k0,b0,o0,a1,n1,k1,b1,o1,rfl,hr0,hr1⟩
theorem At.sta {w:World} {v:Value} {s:Sta} (h:At Form.sta w anyB v s):StaV w v s:=by
 obtain ⟨cs,rfl,h⟩:=h
 obtain ⟨a0,n,k0,b0,o0,a1,n1,k1,b1,o1,rfl,h0,h1⟩:=sta_reads h
 exact ⟨a0,n,k0,b0,o0,a1,n1,k1,b1,o1,rfl,h0,h1⟩
end Gal
namespace Go.Proofs.YtchngeagnlngaaaGreatDoor
open Go.RowKit Gal Go.ChangeShapes Go.WideShapes
set_option maxRecDepth 100000
theorem opens_sta:Opens Tryz.prog Form.sta 25:=Opens.as (Opens.three Tryz.underlying25 (Opens.slice opens_lay Tryz.underlying22 (by kernel_rfl) (by decide)) (Opens.slice opens_grd Tryz.underlying23 (by kernel_rfl) (by decide)) opens_int (by kernel_rfl) (by kernel_rfl) (by kernel_rfl) (by kernel_rfl)) _
theorem open_galley_galleyref1_State {H:Type} {enc:TypeId × Value→H} {w:World} {base b0:Nat} {r:Reach} {spare:Nat→Bool} {held:Bool} {v:Value} {d:DataW H} {p:List MemPlace}
  (hv:Value.okWide Tryz.prog w r b0 25 v) (h:DataW.Trod enc Tryz.prog w base spare held 25 v d p):∃ s:Sta,StaV w v s:=by
 obtain ⟨s,hs⟩:=opens_sta.top_struct Tryz.underlying25 hv h
 exact ⟨s,hs.sta⟩
end Go.Proofs.YtchngeagnlngaaaGreatDoor
end
section
namespace Gal
open Go Go.RowKit
def Grown (w:World):Type:={W:World // Below w.heap.size w W}
def Grown.w {w:World} (q:Grown w):World:=q.1
theorem Grown.below {w:World} (q:Grown w):Below w.heap.size w q.w:=q.2
instance Grown.some (w:World):Nonempty (Grown w):=⟨⟨w,Below.refl _ _⟩⟩
theorem Grown.call {P:Program} {w:World} {q:Grown w} {f:FuncId} {args:Array Value} {v:Value} (h:Calls P f args q.w fun e w'=>e=.returned v∧Below q.w.heap.size q.w w') :
  Calls P f args q.w fun e w''=>e=.returned v∧∃ q':Grown w,w''=q'.w:=
 h.mono fun e w' ⟨he,hb⟩=>⟨he,⟨w',q.below.trans (hb.mono q.below.size)⟩,rfl⟩
theorem wp_region_grow {P:Program} {id:Nat} {Q:Exit→Act→World→Prop} {a:Act} {w:World} {l:List Oper} (hm:P.follows .mixedOrders=true) (hB:Region.lexB .any l.toArray=true)
  (h:wpQuiet P l.toArray (fun w'=>∃ q:Grown w,w'=q.w) (fun a'=>∀ w',(∃ q:Grown w,w'=q.w)→Q .normal a' w') l a):(Code.region id l.toArray true).wp P Q a w:=
 wp_region_quiet (C:=fun w'=>∃ q:Grown w,w'=q.w) hm hB ⟨⟨w.drew,(Below.refl _ _).drew⟩,rfl⟩ (by simpa using h)
end Gal
end
