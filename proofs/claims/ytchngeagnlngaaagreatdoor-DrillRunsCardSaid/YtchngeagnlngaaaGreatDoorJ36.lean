/- Texts joined: PWire3, PWire4, PKeep, AppRow, Byt, Wire1, Keep1, Wire2. -/
import Derived.Test.YtchngeagnlngaaaGreatDoorJ35
import Derived.Test.YtchngeagnlngaaaGreatDoorJ03
import Derived.Test.YtchngeagnlngaaaGreatDoorJ05
import Derived.Laws.BitsAllLaws
import Derived.Test.YtchngeagnlngaaaGreatDoorJ06
import Derived.Test.YtchngeagnlngaaaGreatDoorJ09
set_option linter.unusedVariables false
set_option linter.unusedSimpArgs false
set_option linter.unusedSectionVars false
section
namespace Gal
/-! ### reading a beginning -/
def readN (bs:List Nat):Nat→Nat→Option (List Nat × Nat)
 | 0,at0=>some ([],at0)
 | n+1,at0=>match sevAt bs at0 with
  | none=>none
  | some (y,e)=>match readN bs n e with
   | none=>none
   | some (l,e2)=>some (y :: l,e2)
theorem readN_write:∀ {l pre post:List Nat},(∀ x ∈ l,x<9223372036854775808)→readN (pre++l.flatMap seven++post) l.length pre.length=some (l,pre.length+(l.flatMap seven).length)
 | [],pre,post,_=>by simp [readN]
 | x :: l,pre,post,h=>by
  have e1:pre++(x :: l).flatMap seven++post=pre++seven x++(l.flatMap seven++post):=by simp
  rw [List.length_cons,readN,e1,sevAt_write (h x (by simp))]
  dsimp only
  have e2:pre++seven x++(l.flatMap seven++post)=(pre++seven x)++l.flatMap seven++post:=by simp
  rw [e2,show pre.length+(seven x).length=(pre++seven x).length by simp,readN_write fun y hy=>h y (by simp [hy])]
  simp
  omega
/-! ### messages -/
def withSums (l:List Nat):List Nat:=l++[(prgSums l).1,(prgSums l).2]
theorem matFault_0 {r c:Int} {xs:List Int} (h:matFault r c xs=0):(0≤r∧r≤24)∧(0≤c∧c≤12)∧(xs.length:Int)=r*c∧inEnds xs:=by
 unfold matFault at h
 by_cases h1:r<0∨24<r∨c<0∨12<c
 ·rw [if_pos h1] at h;exact absurd h (by decide)
 ·rw [if_neg h1] at h
  by_cases h2:(xs.length:Int)≠r*c
  ·rw [if_pos h2] at h;exact absurd h (by decide)
  ·rw [if_neg h2] at h
   by_cases h3:inEnds xs
   ·exact ⟨by omega,by omega,by omega,h3⟩
   ·rw [if_neg h3] at h;exact absurd h (by decide)
theorem ends_mem {xs:List Int} (h:inEnds xs):∀ x ∈ xs,-2147483647≤x∧x≤2147483647:=fun x hx=>by
 obtain ⟨j,hj,rfl⟩:=List.mem_iff_getElem.1 hx
 have h1:=h j hj
 have h2:ix xs j=xs[j]:=by simp [ix,hj]
 rw [h2] at h1
 have:=clamp_lo xs[j]
 have:=clamp_hi xs[j]
 omega
theorem zig_lt {x:Int} (h:-2147483647≤x∧x≤2147483647):zigOf x<4294967295:=by
 unfold zigOf
 split <;> omega
theorem prgSums_lt (l:List Nat):(prgSums l).1<255∧(prgSums l).2<255:=by
 rw [sums_same]
 omega
theorem readN_add {bs:List Nat} {n:Nat}:∀ {m at0:Nat},readN bs (m+n) at0=(match readN bs m at0 with|none=>none|some (l,e)=>match readN bs n e with|none=>none|some (l2,e2)=>some (l++l2,e2))
 | 0,at0=>by
  rw [Nat.zero_add,readN]
  dsimp only
  cases readN bs n at0 with
  | none=>rfl
  | some r=>obtain ⟨l,e⟩:=r;rfl
 | m+1,at0=>by
  rw [show m+1+n=(m+n)+1 by omega,readN,readN]
  cases sevAt bs at0 with
  | none=>rfl
  | some r=>
   obtain ⟨y,e⟩:=r
   dsimp only
   rw [readN_add]
   cases readN bs m e with
   | none=>rfl
   | some r=>
    obtain ⟨l,e1⟩:=r
    dsimp only
    cases readN bs n e1 with
    | none=>rfl
    | some r=>obtain ⟨l2,e2⟩:=r;rfl
end Gal
end
section
namespace Gal
def RdN (bs:List Nat) (cnt at0 at1:Nat) (ok:Bool) (vals:List Nat):Prop:=(readN bs cnt at0=some (vals,at1)∧ok=true)∨(readN bs cnt at0=none∧ok=false)
theorem RdN.start (bs:List Nat) (at0:Nat):RdN bs 0 at0 at0 true []:=Or.inl ⟨rfl,rfl⟩
theorem RdN.step {bs:List Nat} {cnt at0 at1 at2 v:Nat} {ok ok2:Bool} {vals:List Nat} (h:RdN bs cnt at0 at1 ok vals) (h2:(sevAt bs at1=some (v,at2)∧ok2=ok)∨(sevAt bs at1=none∧ok2=false)):RdN bs (cnt+1) at0 at2 ok2 (vals++[v]):=by
 rcases h with ⟨h,rfl⟩|⟨h,rfl⟩
 ·rcases h2 with ⟨h2,rfl⟩|⟨h2,rfl⟩
  ·left
   refine ⟨?_,rfl⟩
   rw [readN_add,h]
   dsimp only
   rw [readN,h2]
   rfl
  ·right
   refine ⟨?_,rfl⟩
   rw [readN_add,h]
   dsimp only
   rw [readN,h2]
 ·right
  refine ⟨by rw [readN_add,h],?_⟩
  rcases h2 with ⟨_,h2⟩|⟨_,h2⟩ <;> exact h2
section
variable {bs:List Nat} {v1 v2 v3 v4 at4 at5:Nat} {cells:List Nat}
end
end Gal
end
section
namespace Gal
/-! ### a state az0 bytes -/
def matNums (m:Mat):List Nat:=[m.rows.toNat,m.cols.toNat]++m.cells.map zigOf
def partNums (l:Lay) (v:Grd):List Nat:=[l.kind.toNat]++(matNums l.W++(matNums l.B++(matNums v.W++matNums v.B)))
def netNums (N:List Lay) (V:List Grd):Nat→List Nat
 | 0=>[]
 | k+1=>netNums N V k++partNums (lx N k) (gx V k)
def staNums (s:Sta):List Nat:=[s.steps.toNat,s.N.length]++netNums s.N s.V s.N.length
def staBytes (s:Sta):List Nat:=withSums ([71,1]++(staNums s).flatMap seven)
/-! ### bytes az0 a state -/
def matRd (bs:List Nat) (at0:Nat):Option (Mat × Nat):=
 match sevAt bs at0 with
 | none=>none
 | some (r,at1)=>match sevAt bs at1 with
  | none=>none
  | some (c,at2)=>if 24<r∨12<c then none else match readN bs (r*c) at2 with
   | none=>none
   | some (cells,at3)=>some (⟨r,c,cells.map zagOf⟩,at3)
def partRd (bs:List Nat) (at0:Nat):Option (Lay × Grd × Nat):=
 match sevAt bs at0 with
 | none=>none
 | some (k,a1)=>match matRd bs a1 with
  | none=>none
  | some (W,a2)=>match matRd bs a2 with
   | none=>none
   | some (B,a3)=>match matRd bs a3 with
    | none=>none
    | some (vW,a4)=>match matRd bs a4 with
     | none=>none
     | some (vB,a5)=>some (⟨k,W,B⟩,⟨vW,vB⟩,a5)
def laysRd (bs:List Nat) (at0:Nat):Nat→Option (List Lay × List Grd × Nat)
 | 0=>some ([],[],at0)
 | k+1=>match laysRd bs at0 k with
  | none=>none
  | some (N,V,a)=>match partRd bs a with
   | none=>none
   | some (l,v,e)=>some (N++[l],V++[v],e)
def bodyRd (c:List Nat):Option Sta:=
 match sevAt c 2 with
 | none=>none
 | some (steps,a1)=>match sevAt c a1 with
  | none=>none
  | some (n,a2)=>if 12<n then none else match laysRd c a2 n with
   | none=>none
   | some (N,V,e)=>if e≠c.length∨(Sta.mk N V steps).fault≠0 then none else some ⟨N,V,steps⟩
def headOk (bs:List Nat):Prop:=6≤bs.length∧bs.length≤100000∧bs[0]?.getD 0=71∧bs[1]?.getD 0=1∧(prgSums (bs.take (bs.length - 2))).1=bs[bs.length - 2]?.getD 0∧(prgSums (bs.take (bs.length - 2))).2=bs[bs.length - 1]?.getD 0
instance (bs:List Nat):Decidable (headOk bs):=by unfold headOk;exact inferInstance
def staRd (bs:List Nat):Option Sta:=if headOk bs then bodyRd (bs.take (bs.length - 2)) else none
end Gal
end
section
namespace Gal
open Go Go.RowKit
theorem flat_of_cells {α:Type} {f:Form α} {w:World} {F:Nat→Prop} {b:Nat}:∀ (xs:List α) (off:Nat),(∀ (i:Nat) x,xs[i]?=some x→∃ cs,f.reads w F cs x∧∀ j,j<f.size→w.cell? ⟨b,off+i*f.size+j,none⟩=cs[j]?) →
  ∃ cs:List Value,Flat f w F cs xs∧∀ (j:Nat) u,cs[j]?=some u→w.cell? ⟨b,off+j,none⟩=some u
 | [],off,_=>⟨[],rfl,fun j u h=>by simp at h⟩
 | x :: xs,off,h=>by
  obtain ⟨c,hr,hc⟩:=h 0 x rfl
  obtain ⟨d,hd,hcd⟩:=flat_of_cells xs (off+f.size) (fun i y hy=>by
   obtain ⟨c',h1,h2⟩:=h (i+1) y hy
   exact ⟨c',h1,fun j hj=>by rw [← h2 j hj,Nat.succ_mul,show off+f.size+i*f.size+j=off+(i*f.size+f.size)+j by omega]⟩)
  refine ⟨c++d,⟨c,d,rfl,hr,hd⟩,fun j u hu=>?_⟩
  have hl:=f.len hr
  rcases Nat.lt_or_ge j c.length with h1|h1
  ·rw [List.getElem?_append_left h1] at hu
   have:=hc j (by omega)
   rw [Nat.zero_mul,Nat.add_zero] at this
   exact this.trans hu
  ·rw [List.getElem?_append_right h1] at hu
   have:=hcd _ _ hu
   rw [show off+f.size+(j - c.length)=off+j by omega] at this
   exact this
section
variable {P:Program} {w:World}
end
theorem RowAt.drop {α:Type} {f:Form α} {w:World} {F:Nat→Prop} {b n cap off k:Nat} {xs:List α} (h:RowAt f w F (some ⟨b,off,none⟩) n cap b off xs) (hk:k<n):RowAt f w F (some ⟨b,off+k*f.size,none⟩) (n - k) (cap - k) b (off+k*f.size) (xs.drop k) where
 len:=by rw [List.length_drop,h.len]
 le:=by have:=h.le;omega
 maxc:=by have:=h.maxc;omega
 ptr:=fun _=>rfl
 lt:=fun _=>h.lt (by omega)
 blk:=fun _=>h.blk (by omega)
 cell:=fun i x hx=>by
  rw [List.getElem?_drop] at hx
  obtain ⟨cs,h1,h2⟩:=h.cell _ _ hx
  exact ⟨cs,h1,fun j hj=>by rw [← h2 j hj,Nat.add_mul,show off+k*f.size+i*f.size+j=off+(k*f.size+i*f.size)+j by omega]⟩
end Gal
end
section
namespace Gal
open Go Go.RowKit
def Form.u8:Form Nat where
 size:=1
 reads:=fun _ _ cs x=>cs=[.int .u8 (x:Int)]∧x<256
 len:=fun h=>by rw [h.1];rfl
 one:=fun h u hu=>by rw [h.1] at hu;simp at hu;rw [hu];rfl
 wide:=fun _ h=>h
 keep:=fun _ h=>h
def noK (b:Nat):Prop:=False
def bt (xs:List Nat) (i:Nat):Nat:=xs[i]?.getD 0
theorem bt_get {xs:List Nat} {i:Nat} (h:i<xs.length):xs[i]?=some (bt xs i):=by unfold bt;rw [List.getElem?_eq_getElem h];rfl
theorem u8_cell {w:World} {F:Nat→Prop} {a:Option Addr} {n k b o:Nat} {xs:List Nat} (h:RowAt Form.u8 w F a n k b o xs) {i:Nat} (hi:i<n):w.cell? ⟨b,o+i,none⟩=some (.int .u8 (bt xs i:Int))∧bt xs i<256:=by
 obtain ⟨cs,⟨rfl,h1⟩,h2⟩:=h.cell i (bt xs i) (bt_get (by rw [h.len];exact hi))
 have h3:=h2 0 (by decide)
 rw [show Form.u8.size=1 from rfl,Nat.mul_one,Nat.add_zero] at h3
 exact ⟨h3,h1⟩
theorem OwnRow.lower {α:Type} {f:Form α} {E:TypeId} {w:World} {base base':Nat} {F:Nat→Prop} {v:Value} {xs:List α} (h:OwnRow f E w base F v xs) (hb:base'≤base):OwnRow f E w base' F v xs:=by
 obtain ⟨cs,⟨h1,h2⟩,k⟩:=h.holds
 refine ⟨cs,⟨h1,?_⟩,k⟩
 rcases h2 with h2|⟨g,cap,cur,e,h3,r⟩
 ·exact Or.inl h2
 ·exact Or.inr ⟨g,cap,cur,e,Nat.le_trans hb h3,r⟩
def Plainly {α:Type} (f:Form α):Prop:=∀ (w w':World) (F G:Nat→Prop) (cs:List Value) (x:α),f.reads w F cs x→f.reads w' G cs x
theorem u8_plainly:Plainly Form.u8:=fun _ _ _ _ _ _ h=>h
theorem flat_any {α:Type} {f:Form α} (hp:Plainly f) {w w':World} {F G:Nat→Prop}:∀ {cs:List Value} {xs:List α},Flat f w F cs xs→Flat f w' G cs xs
 | cs,[],h=>h
 | cs,x :: xs,h=>by
  obtain ⟨c,d,e,h1,h2⟩:=h
  exact ⟨c,d,e,hp _ _ _ _ _ _ h1,flat_any hp h2⟩
theorem RowAt.any {α:Type} {f:Form α} (hp:Plainly f) {w:World} {F G:Nat→Prop} {a:Option Addr} {n k b o:Nat} {xs:List α} (h:RowAt f w F a n k b o xs) (hG:0<n→G b):RowAt f w G a n k b o xs:=
 ⟨h.len,h.le,h.maxc,h.ptr,h.lt,hG,fun i x hx=>by
  obtain ⟨cs,h1,h2⟩:=h.cell i x hx
  exact ⟨cs,hp _ _ _ _ _ _ h1,h2⟩⟩
theorem RowAt.firstk {α:Type} {f:Form α} {w:World} {F:Nat→Prop} {a:Option Addr} {n cap b off k:Nat} {xs:List α} (h:RowAt f w F a n cap b off xs) (hk:k≤n):RowAt f w F a k cap b off (xs.take k) where
 len:=by rw [List.length_take,h.len];omega
 le:=Nat.le_trans hk h.le
 maxc:=h.maxc
 ptr:=fun h0=>h.ptr (by omega)
 lt:=fun h0=>h.lt (by omega)
 blk:=fun h0=>h.blk (by omega)
 cell:=fun i x hx=>by
  have hi:i<k:=by
   rcases Nat.lt_or_ge i k with h1|h1
   ·exact h1
   ·rw [List.getElem?_eq_none (by rw [List.length_take];omega)] at hx;cases hx
  rw [List.getElem?_take_of_lt hi] at hx
  exact h.cell i x hx
section
variable {P:Program} {w:World}
theorem wp_append_flat {α:Type} {o:Oper} {a:Act} {K:Act→World→Prop} {Q:Exit→Act→World→Prop} (s x:Operand) (t:TypeId)
  (ho:o.op=.call { callee:=.builtin .append,args:=#[s,x],argTypes:=#[t,t] })
  (f:Form α) (hp:Plainly f) (base:Nat) (F:Nat→Prop) (e:TypeId) (i:TypeInfo) (z:Value) (bytes:Nat) (ht:P.underlying t=some (.slice e)) (hi:P.info? e=some i) (hz:i.zero=some z)
  (hsize:i.size=f.size) (hby:i.bytes=bytes) (hzs:z.cells.size=f.size) (hsz:0<f.size)
  (v:Value) (xs:List α) (hs:a.eval s=v) (hown:OwnRow f e w base F v xs)
  (G:Nat→Prop) (a':Option Addr) (n' cap' b' off':Nat) (ys:List α) (hx:a.eval x=.slice a' n' cap') (hy:RowAt f w G a' n' cap' b' off' ys)
  (hbytes:(xs.length+n')*bytes≤140737488355328) (hlen:xs.length+n'≤maxLen) (hbase:base≤w.heap.size)
  (h:∀ v' w',OwnRow f e w' base F v' (xs++ys)→w.grownBy w' v.ownBlock→(0<n'→∀ g,v'.ownBlock=some g→v.ownBlock=some g∨w.heap.size≤g)→K (a.put o.dst v') w'):o.wp P a w K Q:=by
 obtain ⟨ds,hown1,hfl⟩:=hown.holds
 cases a' with
 | none=>
  have h0:n'=0:=by
   rcases Nat.eq_zero_or_pos n' with h0|h0
   ·exact h0
   ·have:=hy.ptr h0;cases this
  subst h0
  obtain rfl:ys=[]:=List.eq_nil_of_length_eq_zero hy.len
  have hr:=run_append_nil_src (P:=P) base t o.type e i f.size ht hi hsize v xs.length _ hown1 cap'
  unfold Oper.wp execOp
  simp only [ho,resolve,invoke,builtin,Sem.run_bind,Sem.run_pure,Result.andThen_ok,List.map_toArray,List.map_cons,List.map_nil,hs,hx,hr]
  exact h v w (by rw [List.append_nil];exact hown) ⟨rfl,rfl,rfl,Nat.le_refl _,fun _ _ _=>rfl⟩ fun h0=>absurd h0 (Nat.lt_irrefl _)
 | some A=>
  obtain ⟨cs,hfc,hcell⟩:=flat_of_cells ys off' hy.cell
  have hcl:cs.length=n'*f.size:=by rw [hfc.len,hy.len]
  have hnew:∀ j u,cs[j]?=some u→w.cell? (A.add j)=some u:=fun j u hu=>by
   have hj:0<n':=by
    rcases Nat.eq_zero_or_pos n' with h0|h0
    ·rw [h0,Nat.zero_mul] at hcl
     rw [List.eq_nil_of_length_eq_zero hcl] at hu
     simp at hu
    ·exact h0
   have hp:=hy.ptr hj
   cases hp
   have:=hcell j u hu
   rw [← this]
   unfold Addr.add
   split
   ·rename_i h0
    rw [h0,Nat.add_zero]
   ·rfl
  have hfin:∀ v' w',w'.ownsRow base e f.size v' (xs.length+n') (ds++cs)→OwnRow f e w' base F v' (xs++ys):=fun v' w' h2=>⟨_,by rw [List.length_append,hy.len];exact h2,(flat_any hp hfl).append (flat_any hp hfc)⟩
  rcases Nat.eq_zero_or_pos n' with h0|h0
  ·exact wp_append_own w s x t ho base e i z f.size bytes ht hi hz hsize hby hzs hsz v xs.length ds hs hown1 A n' cap' cs hx hcl hnew hfc.one hlen hbytes hbase fun v' w' h2 h3 _=>h v' w' (hfin v' w' h2) h3 fun h1=>absurd h1 (by omega)
  ·exact wp_append_lies w s x t ho base e i z f.size bytes ht hi hz hsize hby hzs hsz v xs.length ds hs hown1 A n' cap' cs hx hcl hnew hfc.one h0 hlen hbytes hbase w.heap.size rfl fun g cap w' h2 h3 h4 h5=>h _ w' (hfin _ w' h2) h3 fun _ g' hg=>by
    simp only [Value.ownBlock,Option.some.injEq] at hg
    subst hg
    rcases h4 with h4|h4
    ·exact Or.inl h4
    ·exact Or.inr (Nat.le_of_eq h4.symm)
theorem wpList_append_flat {α:Type} {ops:Array Oper} {rest:List Oper} {o:Oper} {a:Act} {Q:Exit→Act→World→Prop} (hgd:o.guard=none) (s x:Operand) (t:TypeId)
  (ho:o.op=.call { callee:=.builtin .append,args:=#[s,x],argTypes:=#[t,t] })
  (f:Form α) (hp:Plainly f) (base:Nat) (F:Nat→Prop) (e:TypeId) (i:TypeInfo) (z:Value) (bytes:Nat) (ht:P.underlying t=some (.slice e)) (hi:P.info? e=some i) (hz:i.zero=some z)
  (hsize:i.size=f.size) (hby:i.bytes=bytes) (hzs:z.cells.size=f.size) (hsz:0<f.size)
  (v:Value) (xs:List α) (hs:a.eval s=v) (hown:OwnRow f e w base F v xs)
  (G:Nat→Prop) (a':Option Addr) (n' cap' b' off':Nat) (ys:List α) (hx:a.eval x=.slice a' n' cap') (hy:RowAt f w G a' n' cap' b' off' ys)
  (hbytes:(xs.length+n')*bytes≤140737488355328) (hlen:xs.length+n'≤maxLen) (hbase:base≤w.heap.size)
  (h:∀ v' w',OwnRow f e w' base F v' (xs++ys)→w.grownBy w' v.ownBlock→(0<n'→∀ g,v'.ownBlock=some g→v.ownBlock=some g∨w.heap.size≤g)→wpList P ops Q rest (a.put o.dst v') w'):wpList P ops Q (o :: rest) a w:=
 wpList_plain hgd fun _ hK=>wp_append_flat s x t ho f hp base F e i z bytes ht hi hz hsize hby hzs hsz v xs hs hown G a' n' cap' b' off' ys hx hy hbytes hlen hbase fun v' w' h2 h3 h4=>hK _ _ (h v' w' h2 h3 h4)
end
theorem u8_box {w:World} {F:Nat→Prop} {b:Nat} {xs:List Nat} {T:TypeId} (hb:Box w b (xs.map fun (x:Nat)=>Value.int .u8 (x:Int)) T) (hx:∀ x ∈ xs,x<256) (hl:xs.length≤maxLen) (hF:F b):RowAt Form.u8 w F (some ⟨b,0,none⟩) xs.length xs.length b 0 xs where
 len:=rfl
 le:=Nat.le_refl _
 maxc:=hl
 ptr:=fun _=>rfl
 lt:=fun _=>hb.lt
 blk:=fun _=>hF
 cell:=fun i x hx'=>⟨_,⟨rfl,hx x (List.mem_of_getElem? hx')⟩,fun j hj=>by
  obtain rfl:j=0:=by have:Form.u8.size=1:=rfl;omega
  rw [show Form.u8.size=1 from rfl,Nat.mul_one,Nat.add_zero,Nat.zero_add,hb.cell,List.getElem?_map,hx']
  rfl⟩
theorem or_128 {x:Int} (h:128≤x):bits .or .u8 (x % 256) 128=((128+x.toNat % 128:Nat):Int):=by
 obtain ⟨y,rfl⟩:∃ y:Nat,x=y:=⟨x.toNat,by omega⟩
 have e:(y:Int) % 256=((y % 256:Nat):Int):=by omega
 rw [e,Int.toNat_natCast]
 have hall:∀ a:Fin 256,bits .or .u8 (a.val:Int) 128=((128+a.val % 128:Nat):Int):=by decide +kernel
 have:=hall ⟨y % 256,by omega⟩
 dsimp only at this
 rw [this]
 omega
end Gal
end
section
set_option maxRecDepth 100000
namespace Go.Proofs.YtchngeagnlngaaaGreatDoor
open Go.RowKit Gal
set_option maxHeartbeats 4000000
theorem info_byte:(Tryz.prog.info? 5).map (fun i=>(i.zero,i.size,i.bytes))=some (some (.int .u8 0),1,1):=by kernel_rfl
def sumStep (s:Nat × Nat) (v:Nat):Nat × Nat:=((s.1+v) % 255,(s.2+(s.1+v) % 255) % 255)
theorem drop_bt {l:List Nat} {t:Nat} (h:t<l.length):l.drop t=bt l t :: l.drop (t+1):=by
 rw [List.drop_eq_getElem_cons h]
 have:=bt_get h
 rw [List.getElem?_eq_getElem h] at this
 simp only [Option.some.injEq] at this
 rw [this]
end Go.Proofs.YtchngeagnlngaaaGreatDoor
end
section
set_option maxRecDepth 100000
namespace Gal
open Go Go.RowKit
structure PenGo (R:Nat) (w w':World) (v v':Value):Prop where
 far:Far (fun c=>c=R∨v.ownBlock=some c) w w'
 own:∀ g,v'.ownBlock=some g→v.ownBlock=some g∨w.heap.size≤g
theorem PenGo.refl (R:Nat) (w:World) (v:Value):PenGo R w w v v:=⟨Far.refl _ _,fun g h=>Or.inl h⟩
theorem PenGo.trans {R:Nat} {w w1 w2:World} {v v1 v2:Value} (h:PenGo R w w1 v v1) (k:PenGo R w1 w2 v1 v2):PenGo R w w2 v v2:=by
 refine ⟨⟨k.far.os.trans h.far.os,k.far.tape.trans h.far.tape,k.far.output.trans h.far.output,Nat.le_trans h.far.size k.far.size,fun c hc hs=>?_⟩,fun g hg=>?_⟩
 ·refine (k.far.block c (Nat.lt_of_lt_of_le hc h.far.size) ?_).trans (h.far.block c hc hs)
  rintro (h1|h1)
  ·exact hs (Or.inl h1)
  ·rcases h.own c h1 with h2|h2
   ·exact hs (Or.inr h2)
   ·omega
 ·rcases k.own g hg with h1|h1
  ·exact h.own g h1
  ·exact Or.inr (Nat.le_trans h.far.size h1)
theorem PenGo.pre {R:Nat} {w w1 w2:World} {v v2:Value} (hb:Below w.heap.size w w1) (k:PenGo R w1 w2 v v2):PenGo R w w2 v v2:=
 PenGo.trans ⟨Far.of_below hb,fun g h=>Or.inl h⟩ k
theorem PenGo.post {R:Nat} {w w1 w2:World} {v v1:Value} (k:PenGo R w w1 v v1) (hb:Below w1.heap.size w1 w2):PenGo R w w2 v v1:=
 PenGo.trans k ⟨Far.of_below hb,fun g h=>Or.inl h⟩
theorem PenGo.push {R:Nat} {w wr w':World} {v u:Value} {o:Obj} {g cap n:Nat} (h:PenGo R w wr v u) (hg:(wr.alloc o).grownBy w' u.ownBlock) (hl:u.ownBlock=some g∨wr.heap.size≤g) (x:Value):PenGo R w (w'.setCell ⟨R,0,none⟩ x) v (.slice (some ⟨g,0,none⟩) n cap):=by
 refine ⟨((h.far.al o).grown hg fun k hk hlt=>?_).st (fun _=>Or.inl rfl) x,fun q hq=>?_⟩
 ·rcases h.own k hk with h1|h1
  ·exact Or.inr h1
  ·omega
 ·simp only [Value.ownBlock,Option.some.injEq] at hq
  subst hq
  rcases hl with h1|h1
  ·exact h.own g h1
  ·exact Or.inr (Nat.le_trans h.far.size h1)
theorem pen_push {α:Type} {f:Form α} {E T:TypeId} {R base:Nat} {wr w':World} {u:Value} {o:Obj} {g cap n:Nat} {ys:List α} (hB:Box wr R [u] T) (hne:u.ownBlock≠some R) (hg:(wr.alloc o).grownBy w' u.ownBlock) (hl:u.ownBlock=some g∨wr.heap.size≤g)
  (hown:OwnRow f E w' base noK (.slice (some ⟨g,0,none⟩) n cap) ys) :
  Box (w'.setCell ⟨R,0,none⟩ (.slice (some ⟨g,0,none⟩) n cap)) R [.slice (some ⟨g,0,none⟩) n cap] T∧OwnRow f E (w'.setCell ⟨R,0,none⟩ (.slice (some ⟨g,0,none⟩) n cap)) base noK (.slice (some ⟨g,0,none⟩) n cap) ys∧Value.ownBlock (.slice (some ⟨g,0,none⟩) n cap)≠some R:=by
 have hgR:g≠R:=by
  rintro rfl
  rcases hl with h1|h1
  ·exact hne h1
  ·have:=hB.lt;omega
 have h1:Box w' R [u] T:=(hB.alloc o).grown hg (fun e=>hne e.symm)
 have hn:Value.ownBlock (.slice (some ⟨g,0,none⟩) n cap)≠some R:=by simpa [Value.ownBlock] using hgR
 exact ⟨h1.set 0 _,hown.set hn (fun hh=>hh.elim) _,hn⟩
end Gal
namespace Go.Proofs.YtchngeagnlngaaaGreatDoor
open Go.RowKit Gal
set_option maxHeartbeats 4000000
def PenAt (w:World) (R base:Nat) (v:Value) (xs:List Nat):Prop:=Box w R [v] 81∧OwnRow Form.u8 5 w base noK v xs∧v.ownBlock≠some R
theorem penNumber_any (xs:List Nat) (x:Int) (v:Value) (R base:Nat) (w:World) (hx:0≤x∧x≤9223372036854775807) (hp:PenAt w R base v xs) (hlen:xs.length≤1000000) (hbase:base≤w.heap.size) :
  Calls Tryz.prog 27 #[.pointer (some ⟨R,0,none⟩),.int .i64 x] w fun e w'=>∃ v',e=.returned (.tuple #[])∧PenAt w' R base v' (xs++seven x.toNat)∧PenGo R w w' v v':=by
 obtain ⟨i0,hi,hz0,hz1,hz2⟩:=info_parts info_byte
 obtain ⟨x0,x1⟩:=hx
 obtain ⟨Z,hZ⟩:∃ Z,xs++seven x.toNat=Z:=⟨_,rfl⟩
 have hZl:Z.length≤1000009:=by
  rw [← hZ,List.length_append]
  have:=seven_9 (x:=x.toNat) (by omega)
  omega
 have HZ:=Lib.hid hZ
 rw [hZ]
 have HZL:=Lib.hid hZl
 clear hZ hZl
 go_enter Tryz.func27,Tryz.ntmps27
 go_wp2
 go_loopw [1] (fun y wr=>∃ (u:Value) (z:Int) (ys:List Nat),y=.int .i64 z∧0≤z∧z≤x∧Hid (ys++seven z.toNat=Z)∧PenAt wr R base u ys∧PenGo R w wr v u) (fun y _=>(intOf y).toNat)
 case atStart=>exact ⟨v,x,xs,rfl,x0,Int.le_refl _,HZ,hp,PenGo.refl _ _ _⟩
 case round=>
  clear hp
  obtain ⟨u,z,ys,rfl,z0,z1,hys,⟨hB,hown,hne⟩,hgo⟩:=hrel
  have hsz:base≤wr.heap.size:=Nat.le_trans hbase hgo.far.size
  have c0:=hB.cell 0
  have hyl:ys.length≤1000009:=by
   have h1:=HZL.out
   rw [← hys.out,List.length_append] at h1
   omega
  by_cases hlt:128≤z
  ·have e1:(z ≥ 128)=True:=by simp;omega
   have hor:=or_128 hlt
   have hyr:Form.u8.reads (wr.alloc (.cells #[.int .u8 ((128+z.toNat % 128:Nat):Int)] 5)) (fun b=>noK b∧u.ownBlock≠some b) [.int .u8 ((128+z.toNat % 128:Nat):Int)] (128+z.toNat % 128):=⟨rfl,by omega⟩
   obtain ⟨Y,hY⟩:∃ Y:Nat,128+z.toNat % 128=Y:=⟨_,rfl⟩
   rw [hY] at hor hyr
   have HNX:Hid ((ys++[Y])++seven (z / 128).toNat=Z):=Lib.hid (by
    rw [← hys.out,seven_high (x:=z.toNat) (by omega),hY,List.append_assoc]
    have:(z / 128).toNat=z.toNat / 128:=by omega
    rw [this]
    rfl)
   have HY:Hid (0≤z / 128∧z / 128≤x∧(z / 128).toNat<z.toNat):=Lib.hid (by omega)
   clear hY
   go_wp2_with (at_builtin;go_must (refine wpList_push rfl (.tmp 12) (.tmp 16) 54 rfl Form.u8 base noK 5 i0 (.int .u8 0) 1 Tryz.underlying54 hi hz0 hz1 hz2 rfl (by decide) u ys rfl (hown.keep ((Below.refl _ _).alloc (Nat.le_refl _) _)) wr.heap.size 1 [.int .u8 (Y:Int)] 5 Y rfl (Box.new _ _ _) hyr (by omega) (by unfold maxLen;omega) (by simp;omega) _ rfl ?_))
   intro g cap w' hown' hgrow hlies hgs
   replace hlies:u.ownBlock=some g∨wr.heap.size≤g:=hlies.imp_right (fun h=>by omega)
   have HN:=Lib.hid (pen_push hB hne hgrow hlies hown')
   have HG:=Lib.hid (hgo.push (n:=ys.length+1) (cap:=cap) hgrow hlies (.slice (some ⟨g,0,none⟩) (ys.length+1) cap))
   have hB':Box w' R [u] 81:=(hB.alloc _).grown hgrow (fun e=>hne e.symm)
   have f0:=hB'.thawed 0
   have d0:=hB'.cell 0
   clear hown' hgrow hlies hgs hyr hor hgo hown hB hB' c0
   go_wp2
   go_roundw
   case rel=>exact ⟨_,z / 128,ys++[Y],rfl,HY.out.1,HY.out.2.1,HNX,HN.out,HG.out⟩
   case measure=>simp only [intOf];exact HY.out.2.2
  ·have e1:(z ≥ 128)=False:=by simp;omega
   have hu8:z % 256=z:=by omega
   have hyr:Form.u8.reads (wr.alloc (.cells #[.int .u8 z] 5)) (fun b=>noK b∧u.ownBlock≠some b) [.int .u8 z] z.toNat:=⟨by rw [Int.toNat_of_nonneg z0],by omega⟩
   have HR2:Hid (ys++[z.toNat]=Z):=Lib.hid (by rw [← hys.out,seven_low (by omega)])
   go_wp2_with (at_builtin;go_must (refine wpList_push rfl (.tmp 24) (.tmp 27) 54 rfl Form.u8 base noK 5 i0 (.int .u8 0) 1 Tryz.underlying54 hi hz0 hz1 hz2 rfl (by decide) u ys rfl (hown.keep ((Below.refl _ _).alloc (Nat.le_refl _) _)) wr.heap.size 1 [.int .u8 z] 5 z.toNat rfl (Box.new _ _ _) hyr (by omega) (by unfold maxLen;omega) (by simp;omega) _ rfl ?_))
   intro g cap w' hown' hgrow hlies hgs
   replace hlies:u.ownBlock=some g∨wr.heap.size≤g:=hlies.imp_right (fun h=>by omega)
   have HN:=Lib.hid (pen_push hB hne hgrow hlies hown')
   have HG:=Lib.hid (hgo.push (n:=ys.length+1) (cap:=cap) hgrow hlies (.slice (some ⟨g,0,none⟩) (ys.length+1) cap))
   have hB':Box w' R [u] 81:=(hB.alloc _).grown hgrow (fun e=>hne e.symm)
   have f0:=hB'.thawed 0
   have d0:=hB'.cell 0
   clear hown' hgrow hlies hgs hyr hu8 hgo hown hB hB' c0
   go_wp2
   go_end0
   exact ⟨_,rfl,by rw [← HR2.out];exact HN.out,HG.out⟩
theorem keepSums_any (xs:List Nat) (a:Option Addr) (n k b o:Nat) (F:Nat→Prop) (w:World) (h:RowAt Form.u8 w F a n k b o xs) :
  Calls Tryz.prog 29 #[.slice a n k] w fun e w'=>e=.returned (.tuple #[.int .u8 ((prgSums xs).1:Int),.int .u8 ((prgSums xs).2:Int)])∧Below w.heap.size w w':=by
 have HL:=Lib.hid h.len
 have hmx:=h.max
 unfold maxLen at hmx
 obtain ⟨⟨r1,r2⟩,hR⟩:∃ R,prgSums xs=R:=⟨_,rfl⟩
 rw [hR]
 have HR:Hid ((xs.drop 0).foldl sumStep (0,0)=(r1,r2)):=Lib.hid hR
 clear hR
 go_enter Tryz.func29,Tryz.ntmps29
 go_wp2
 go_loopw [4,5,10] (fun x y i wr=>∃ (t s1 s2:Nat),t≤n∧i=.int .i64 t∧x=.int .i64 s1∧y=.int .i64 s2∧s1<255∧s2<255∧Hid ((xs.drop t).foldl sumStep (s1,s2)=(r1,r2))∧Below w.heap.size w wr) (fun _ _ i _=>n - (intOf i).toNat)
 case atStart=>exact ⟨0,0,0,Nat.zero_le _,rfl,rfl,rfl,by decide,by decide,HR,Below.refl _ _⟩
 case round=>
  obtain ⟨t,s1,s2,ht,rfl,rfl,rfl,h1,h2,hgo,hbr⟩:=hrel
  by_cases hlt:t<n
  ·obtain rfl:=h.ptr (by omega)
   obtain ⟨c0,hc⟩:=u8_cell (h.keep hbr) hlt
   obtain ⟨v,hv⟩:∃ v,bt xs t=v:=⟨_,rfl⟩
   rw [hv] at c0 hc
   obtain ⟨u1,hu1⟩:∃ u1,(s1+v) % 255=u1:=⟨_,rfl⟩
   obtain ⟨u2,hu2⟩:∃ u2,(s2+u1) % 255=u2:=⟨_,rfl⟩
   have HGO:Hid ((xs.drop (t+1)).foldl sumStep (u1,u2)=(r1,r2)):=Lib.hid (by
    rw [← hgo.out,drop_bt (l:=xs) (t:=t) (by rw [HL.out];exact hlt),List.foldl_cons,hv]
    unfold sumStep
    dsimp only
    rw [hu1,hu2])
   have hb1:u1<255:=by omega
   have hb2:u2<255:=by omega
   have e1:((s1:Int)+(v:Int)) % 255=(u1:Int):=by omega
   have e2:((s2:Int)+(u1:Int)) % 255=(u2:Int):=by omega
   clear hv hu1 hu2
   go_wp2
   go_roundw
   case rel=>exact ⟨t+1,u1,u2,by omega,by go_num,by rw [e1],by rw [e2],hb1,hb2,HGO,(Below.y0 hbr)⟩
   case measure=>simp [intOf];omega
  ·obtain rfl:n=t:=by omega
   have hV:(s1,s2)=(r1,r2):=by rw [← hgo.out,List.drop_of_length_le (by rw [HL.out];exact Nat.le_refl _)];rfl
   simp only [Prod.mk.injEq] at hV
   obtain ⟨rfl,rfl⟩:=hV
   have e1:((s1:Int)) % 256=s1:=by omega
   have e2:((s2:Int)) % 256=s2:=by omega
   go_wp2
   refine bodyPost_ret (v:=.tuple #[.int .u8 s1,.int .u8 s2]) (by simp [results,Tryz.results29,go_sem]) rfl ⟨rfl,(Below.y0 hbr)⟩
end Go.Proofs.YtchngeagnlngaaaGreatDoor
end
section
set_option maxRecDepth 100000
namespace Gal
theorem sevens_take {l:List Nat} {t x:Nat} (h:l[t]?=some x):(l.take (t+1)).flatMap seven=(l.take t).flatMap seven++seven x:=by
 have hl:t<l.length:=by
  rcases Nat.lt_or_ge t l.length with h1|h1
  ·exact h1
  ·rw [List.getElem?_eq_none h1] at h;cases h
 rw [List.take_succ_eq_append_getElem hl,List.flatMap_append]
 rw [List.getElem?_eq_getElem hl] at h
 simp only [Option.some.injEq] at h
 rw [h]
 simp
theorem sevens_len {l:List Nat} (h:∀ x ∈ l,x<9223372036854775808):(l.flatMap seven).length≤9*l.length:=by
 induction l with
 | nil=>simp
 | cons x l ih=>
  rw [List.flatMap_cons,List.length_append,List.length_cons]
  have h1:=seven_9 (h x (by simp))
  have h2:=ih fun y hy=>h y (by simp [hy])
  omega
end Gal
namespace Go.Proofs.YtchngeagnlngaaaGreatDoor
open Go.RowKit Gal
set_option maxHeartbeats 8000000
end Go.Proofs.YtchngeagnlngaaaGreatDoor
end
