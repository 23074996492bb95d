/- Texts joined: Mp, Mp3, Set, Mat2, Made, Batch1. -/
import Derived.Test.YtchngeagnlngaaaGreatDoorJ05
import Derived.Maps.Own
import Derived.WideKeyEntry
import Derived.Test.YtchngeagnlngaaaGreatDoorJ06
import Derived.Deep.RegionHeld3
import Derived.Deep.AppendLies
import Derived.Deep.DrawnRows
import Derived.Deep.DeepMust
import Derived.Deep.RegionLaw
import Derived.BigRegion
import Derived.Test.YtchngeagnlngaaaGreatDoorProg
import Derived.ProofKit
import Derived.Test.YtchngeagnlngaaaGreatDoorJ03
set_option linter.unusedVariables false
set_option linter.unusedSimpArgs false
set_option linter.unusedSectionVars false
section
namespace Gal
open Go Go.RowKit Go.Maps Go.ChangeMaps
section
variable {α:Type} [DecidableEq α]
def look (l:List (α × Int)) (a:α):Int:=((l.find? fun p=>decide (p.1=a)).map (·.2)).getD 0
theorem look_none {l:List (α × Int)} {a:α} (h:∀ p ∈ l,p.1≠a):look l a=0:=by
 unfold look
 rw [List.find?_eq_none.2 fun p hp=>by simpa using h p hp]
 rfl
theorem look_some {l:List (α × Int)} {a:α} {p:α × Int} (hd:(l.map (·.1)).Nodup) (hp:p ∈ l) (ha:p.1=a):look l a=p.2:=by
 unfold look
 cases hf:l.find? fun p=>decide (p.1=a) with
 | none=>exact absurd (List.find?_eq_none.1 hf p hp) (by simp [ha])
 | some q=>
  have h1:=List.mem_of_find?_eq_some hf
  have h2:=List.find?_some hf
  simp only [decide_eq_true_eq] at h2
  obtain ⟨i,hi,rfl⟩:=List.mem_iff_getElem.1 h1
  obtain ⟨j,hj,rfl⟩:=List.mem_iff_getElem.1 hp
  have h3:(l.map (·.1))[i]'(by simpa using hi)=(l.map (·.1))[j]'(by simpa using hj):=by simp [h2,ha]
  have h4:=(List.getElem_inj hd).1 h3
  subst h4
  rfl
def MapIs (P:Program) (k:TypeId) (kf:α→Value) (w:World) (b:Nat) (l:List (α × Int)):Prop:=
 ∃ es clock,w.heap[b]?=some (.map es clock)∧es.toList.map (fun e=>(e.key,e.val))=l.map (fun p=>(kf p.1,Value.int .i64 p.2))∧(∀ e ∈ es.toList,e.born<clock)∧(es.toList.map (·.born)).Nodup ∧
  (l.map (·.1)).Nodup∧∀ p ∈ l,∃ kl,keyOf P k (kf p.1)=some kl
variable {P:Program} {t k e:TypeId} {kf:α→Value} {w:World} {b:Nat} {l:List (α × Int)}
theorem MapIs.lt (h:MapIs P k kf w b l):b<w.heap.size:=by
 obtain ⟨es,c,hb,_⟩:=h
 exact heap_lt hb
theorem MapIs.block {w':World} (h:MapIs P k kf w b l) (he:w'.heap[b]?=w.heap[b]?):MapIs P k kf w' b l:=by
 obtain ⟨es,c,hb,r⟩:=h
 exact ⟨es,c,he.trans hb,r⟩
theorem MapIs.keep {w':World} (h:MapIs P k kf w b l) (hb:Below w.heap.size w w'):MapIs P k kf w' b l:=h.block (hb.block b h.lt)
theorem MapIs.drew (h:MapIs P k kf w b l):MapIs P k kf w.drew b l:=h
theorem MapIs.drewN (h:MapIs P k kf w b l) (n:Nat):MapIs P k kf (w.drewN n) b l:=h
theorem MapIs.alloc (h:MapIs P k kf w b l) (o:Obj):MapIs P k kf (w.alloc o) b l:=h.block (Below.heap_alloc w o b h.lt)
theorem MapIs.far (h:MapIs P k kf w b l) {a:Addr} (hne:b≠a.block) (v:Value):MapIs P k kf (w.setCell a v) b l:=h.block (Below.heap_setCell w a v b hne)
theorem MapIs.new (w:World):MapIs P k kf (w.alloc (.map #[] 0)) w.heap.size ([]:List (α × Int)):=
 ⟨#[],0,(MapKept.heap_alloc w _).1,rfl,by simp,by simp,by simp,by simp⟩
theorem MapIs.new' (w:World) (n:Nat) (hn:n=w.heap.size):MapIs P k kf (w.alloc (.map #[] 0)) n ([]:List (α × Int)):=by subst hn;exact MapIs.new w
def Only (b:Nat) (w w':World):Prop:=w.grownBy w' (some b)∧w'.heap.size=w.heap.size
theorem Only.below {w w':World} (h:Only b w w') {B:Nat} {a:World} (hb:Below B a w) (hB:B≤b) (hs:B≤w.heap.size):Below B a w':=
 Below.grown hb h.1 hs fun k hk=>by cases hk;exact hB
theorem Box.only {w w':World} {c:Nat} {cs:List Value} {T:TypeId} (h:Box w c cs T) (ho:Only b w w') (hne:c≠b):Box w' c cs T:=h.grown ho.1 (by simpa using hne)
theorem only_set {w:World} {o:Obj} {es:Array MapEntry} {c:Nat} (hb:w.heap[b]?=some (.map es c)):Only b w (setBlock w b o):=
 ⟨⟨rfl,rfl,rfl,by simp [setBlock],fun i _ hi=>heap_setBlock_other hb _ (fun e=>hi (by rw [e]))⟩,by simp [setBlock]⟩
section
variable (K:Keyed P k) (ht:P.underlying t=some (.map k e)) (hz:∀ w,(zeroValue e).run P w=.ok (.int .i64 0) w) (hkf:∀ {x y:α},kf x=kf y→x=y)
include K ht hz hkf
theorem mem_of_entry {es:Array MapEntry} (he:es.toList.map (fun e=>(e.key,e.val))=l.map (fun p=>(kf p.1,Value.int .i64 p.2))) {j:Nat} {e0:MapEntry} (h:es.toList[j]?=some e0):∃ p ∈ l,e0.key=kf p.1∧e0.val=.int .i64 p.2:=by
 have h1:(es.toList.map (fun e=>(e.key,e.val)))[j]?=some (e0.key,e0.val):=by rw [List.getElem?_map,h];rfl
 rw [he,List.getElem?_map] at h1
 cases hp:l[j]? with
 | none=>rw [hp] at h1;cases h1
 | some p=>
  rw [hp] at h1
  simp only [Option.map_some,Option.some.injEq,Prod.mk.injEq] at h1
  exact ⟨p,List.mem_of_getElem? hp,h1.1.symm,h1.2.symm⟩
theorem keys_of {es:Array MapEntry} (he:es.toList.map (fun e=>(e.key,e.val))=l.map (fun p=>(kf p.1,Value.int .i64 p.2))) (hk:∀ p ∈ l,∃ kl,keyOf P k (kf p.1)=some kl):∀ e ∈ es.toList,∃ kl,keyOf P k e.key=some kl:=fun e0 h0=>by
 obtain ⟨j,hj⟩:=List.getElem?_of_mem h0
 obtain ⟨p,hp,h1,_⟩:=mem_of_entry K ht hz hkf he hj
 rw [h1]
 exact hk p hp
theorem no_key {es:Array MapEntry} (he:es.toList.map (fun e=>(e.key,e.val))=l.map (fun p=>(kf p.1,Value.int .i64 p.2))) {a:α} (h:∀ x ∈ es.toList,x.key≠kf a):∀ p ∈ l,p.1≠a:=fun p hp hpa=>by
 obtain ⟨j,hj⟩:=List.getElem?_of_mem hp
 have h1:(l.map (fun p=>(kf p.1,Value.int .i64 p.2)))[j]?=some (kf p.1,.int .i64 p.2):=by rw [List.getElem?_map,hj];rfl
 rw [← he,List.getElem?_map] at h1
 cases hx:es.toList[j]? with
 | none=>rw [hx] at h1;cases h1
 | some x=>
  rw [hx] at h1
  simp only [Option.map_some,Option.some.injEq,Prod.mk.injEq] at h1
  exact h x (List.mem_of_getElem? hx) (by rw [h1.1,hpa])
theorem MapIs.lookup (h:MapIs P k kf w b l) {a:α} {kl:Lit} (hkey:keyOf P k (kf a)=some kl):(Instr.lookup t (.map (some b)) (kf a) false).run P w=.ok (.int .i64 (look l a)) w:=by
 obtain ⟨es,c,hb,he,h1,h2,h3,h4⟩:=h
 rcases K.find w hkey es.toList (keys_of K ht hz hkf he h4) with ⟨g1,g2⟩|⟨j,e0,g1,g2,g3⟩
 ·rw [look_none (no_key K ht hz hkf he g2)]
  simp [Instr.lookup,run_underlying ht,MapKept.run_getObj_map hb,K.check w _ hkey,g1,hz,Result.andThen]
 ·obtain ⟨p,hp,q1,q2⟩:=mem_of_entry K ht hz hkf he g2
  rw [look_some h3 hp (hkf (q1.symm.trans g3)),← q2]
  simp [Instr.lookup,run_underlying ht,MapKept.run_getObj_map hb,K.check w _ hkey,g1,Result.andThen]
theorem MapIs.update (h:MapIs P k kf w b l) {a:α} {kl:Lit} (hkey:keyOf P k (kf a)=some kl) (hnew:∀ p ∈ l,p.1≠a) (n:Int) :
  ∃ w',(Instr.mapUpdate t (.map (some b)) (kf a) (.int .i64 n)).run P w=.ok () w'∧MapIs P k kf w' b (l++[(a,n)])∧Only b w w':=by
 obtain ⟨es,c,hb,he,h1,h2,h3,h4⟩:=h
 rcases K.find w hkey es.toList (keys_of K ht hz hkf he h4) with ⟨g1,g2⟩|⟨j,e0,g1,g2,g3⟩
 ·refine ⟨setBlock w b (.map (es.push ⟨kf a,.int .i64 n,c⟩) (c+1)),?_,⟨es.push ⟨kf a,.int .i64 n,c⟩,c+1,heap_setBlock_same hb _,?_,?_,?_,?_,?_⟩,only_set hb⟩
  ·simp [Instr.mapUpdate,run_underlying ht,MapKept.run_getObj_map hb,K.check w false hkey,g1,MapKept.run_setObj_map _ hb,Result.andThen,setBlock]
  ·simp [he]
  ·intro x hx
   rw [Array.toList_push] at hx
   rcases List.mem_append.1 hx with hx|hx
   ·have:=h1 x hx;omega
   ·simp only [List.mem_singleton] at hx;subst hx;exact Nat.lt_succ_self _
  ·rw [Array.toList_push,List.map_append]
   refine List.nodup_append.2 ⟨h2,by simp,fun x hx y hy e1=>?_⟩
   simp only [List.map_cons,List.map_nil,List.mem_singleton] at hy
   obtain ⟨z,hz',rfl⟩:=List.mem_map.1 hx
   have:=h1 z hz'
   omega
  ·rw [List.map_append]
   refine List.nodup_append.2 ⟨h3,by simp,fun x hx y hy e1=>?_⟩
   simp only [List.map_cons,List.map_nil,List.mem_singleton] at hy
   obtain ⟨p,hp,rfl⟩:=List.mem_map.1 hx
   exact hnew p hp (e1.trans hy)
  ·intro p hp
   rcases List.mem_append.1 hp with hp|hp
   ·exact h4 p hp
   ·simp only [List.mem_singleton] at hp;subst hp;exact ⟨kl,hkey⟩
 ·obtain ⟨p,hp,q1,q2⟩:=mem_of_entry K ht hz hkf he g2
  exact absurd (hkf (q1.symm.trans g3)) (hnew p hp)
omit K hz hkf in
theorem MapIs.clear (h:MapIs P k kf w b l):∃ w',(∀ ty,(Builtin.clear_ #[t] ty #[.map (some b)]).run P w=.ok (.tuple #[]) w')∧MapIs P k kf w' b ([]:List (α × Int))∧Only b w w':=by
 obtain ⟨es,c,hb,_⟩:=h
 refine ⟨setBlock w b (.map #[] c),fun ty=>?_,⟨#[],c,heap_setBlock_same hb _,rfl,by simp,by simp,by simp,by simp⟩,only_set hb⟩
 simp [Builtin.clear_,run_underlying ht,MapKept.run_getObj_map hb,MapKept.run_setObj_map _ hb,Result.andThen,setBlock]
end
end
end Gal
end
section
namespace Gal
open Go Go.RowKit Go.Maps Go.ChangeMaps
theorem mapErase {α β:Type} (f:α→β):∀ (l:List α) (j:Nat),(l.eraseIdx j).map f=(l.map f).eraseIdx j
 | [],j=>by simp
 | x :: l,0=>by simp
 | x :: l,j+1=>by simp [List.eraseIdx_cons_succ,mapErase f l j]
section
variable {α:Type} [DecidableEq α]
def MapV (P:Program) (k:TypeId) (kf:α→Value) (w:World) (b:Nat) (l:List (α × Value)):Prop:=
 ∃ es clock,w.heap[b]?=some (.map es clock)∧es.toList.map (fun e=>(e.key,e.val))=l.map (fun p=>(kf p.1,p.2))∧(l.map (·.1)).Nodup∧∀ p ∈ l,∃ kl,keyOf P k (kf p.1)=some kl
variable {P:Program} {t k e:TypeId} {kf:α→Value} {w:World} {b:Nat} {l:List (α × Value)}
theorem MapV.lt (h:MapV P k kf w b l):b<w.heap.size:=by
 obtain ⟨es,c,hb,_⟩:=h
 exact heap_lt hb
theorem MapV.block {w':World} (h:MapV P k kf w b l) (he:w'.heap[b]?=w.heap[b]?):MapV P k kf w' b l:=by
 obtain ⟨es,c,hb,r⟩:=h
 exact ⟨es,c,he.trans hb,r⟩
theorem MapV.keep {w':World} (h:MapV P k kf w b l) (hb:Below w.heap.size w w'):MapV P k kf w' b l:=h.block (hb.block b h.lt)
theorem MapV.drew (h:MapV P k kf w b l):MapV P k kf w.drew b l:=h
theorem MapV.drewN (h:MapV P k kf w b l) (n:Nat):MapV P k kf (w.drewN n) b l:=h
theorem MapV.alloc (h:MapV P k kf w b l) (o:Obj):MapV P k kf (w.alloc o) b l:=h.block (Below.heap_alloc w o b h.lt)
theorem MapV.far (h:MapV P k kf w b l) {a:Addr} (hne:b≠a.block) (v:Value):MapV P k kf (w.setCell a v) b l:=h.block (Below.heap_setCell w a v b hne)
theorem MapV.new (w:World):MapV P k kf (w.alloc (.map #[] 0)) w.heap.size ([]:List (α × Value)):=
 ⟨#[],0,(MapKept.heap_alloc w _).1,rfl,by simp,by simp⟩
section
variable (K:Keyed P k) (ht:P.underlying t=some (.map k e)) (hkf:∀ {x y:α},kf x=kf y→x=y)
include K ht hkf
theorem keysV_of {es:Array MapEntry} (he:es.toList.map (fun e=>(e.key,e.val))=l.map (fun p=>(kf p.1,p.2))) (hk:∀ p ∈ l,∃ kl,keyOf P k (kf p.1)=some kl):∀ e ∈ es.toList,∃ kl,keyOf P k e.key=some kl:=fun e0 h0=>by
 have h1:(e0.key,e0.val) ∈ es.toList.map (fun e=>(e.key,e.val)):=List.mem_map.2 ⟨e0,h0,rfl⟩
 rw [he] at h1
 obtain ⟨p,hp,h2⟩:=List.mem_map.1 h1
 have h3:kf p.1=e0.key:=congrArg Prod.fst h2
 rw [← h3]
 exact hk p hp
theorem no_keyV {es:Array MapEntry} (he:es.toList.map (fun e=>(e.key,e.val))=l.map (fun p=>(kf p.1,p.2))) {a:α} (h:∀ x ∈ es.toList,x.key≠kf a):∀ p ∈ l,p.1≠a:=fun p hp hpa=>by
 have h1:(kf p.1,p.2) ∈ l.map (fun p=>(kf p.1,p.2)):=List.mem_map.2 ⟨p,hp,rfl⟩
 rw [← he] at h1
 obtain ⟨x,hx,h2⟩:=List.mem_map.1 h1
 have h3:x.key=kf p.1:=congrArg Prod.fst h2
 exact h x hx (by rw [h3,hpa])
theorem entryV {es:Array MapEntry} (he:es.toList.map (fun e=>(e.key,e.val))=l.map (fun p=>(kf p.1,p.2))) {j:Nat} {e0:MapEntry} {a:α} (h2:es.toList[j]?=some e0) (h3:e0.key=kf a):∃ v,l[j]?=some (a,v)∧e0.val=v:=by
 have h1:(es.toList.map (fun e=>(e.key,e.val)))[j]?=some (e0.key,e0.val):=by rw [List.getElem?_map,h2];rfl
 rw [he,List.getElem?_map] at h1
 cases hp:l[j]? with
 | none=>rw [hp] at h1;cases h1
 | some p=>
  rw [hp] at h1
  simp only [Option.map_some,Option.some.injEq,Prod.mk.injEq] at h1
  obtain ⟨p1,p2⟩:=p
  have h4:p1=a:=hkf (h1.1.trans h3)
  exact ⟨p2,by rw [h4],h1.2.symm⟩
theorem MapV.lookup (h:MapV P k kf w b l) {a:α} {v:Value} {kl:Lit} (hkey:keyOf P k (kf a)=some kl) (hmem:(a,v) ∈ l):(Instr.lookup t (.map (some b)) (kf a) false).run P w=.ok v w:=by
 obtain ⟨es,c,hb,he,h3,h4⟩:=h
 rcases K.find w hkey es.toList (keysV_of K ht hkf he h4) with ⟨g1,g2⟩|⟨j,e0,g1,g2,g3⟩
 ·exact absurd rfl (no_keyV K ht hkf he g2 _ hmem)
 ·obtain ⟨v',hv',hv⟩:=entryV K ht hkf he g2 g3
  obtain ⟨i,hi⟩:=List.getElem?_of_mem hmem
  obtain ⟨i1,i2⟩:=List.getElem?_eq_some_iff.1 hi
  obtain ⟨j1,j2⟩:=List.getElem?_eq_some_iff.1 hv'
  have h5:(l.map (·.1))[i]'(by simpa using i1)=(l.map (·.1))[j]'(by simpa using j1):=by simp [i2,j2]
  obtain rfl:=(List.getElem_inj h3).1 h5
  have h6:v'=v:=by
   have:=hv'.symm.trans hi
   simpa using this
  simp [Instr.lookup,run_underlying ht,MapKept.run_getObj_map hb,K.check w _ hkey,g1,Result.andThen,hv,h6]
theorem MapV.update (h:MapV P k kf w b l) {a:α} {kl:Lit} (hkey:keyOf P k (kf a)=some kl) (hnew:∀ p ∈ l,p.1≠a) (v:Value) :
  ∃ w',(Instr.mapUpdate t (.map (some b)) (kf a) v).run P w=.ok () w'∧MapV P k kf w' b (l++[(a,v)])∧Only b w w':=by
 obtain ⟨es,c,hb,he,h3,h4⟩:=h
 rcases K.find w hkey es.toList (keysV_of K ht hkf he h4) with ⟨g1,g2⟩|⟨j,e0,g1,g2,g3⟩
 ·refine ⟨setBlock w b (.map (es.push ⟨kf a,v,c⟩) (c+1)),?_,⟨es.push ⟨kf a,v,c⟩,c+1,heap_setBlock_same hb _,?_,?_,?_⟩,only_set hb⟩
  ·simp [Instr.mapUpdate,run_underlying ht,MapKept.run_getObj_map hb,K.check w false hkey,g1,MapKept.run_setObj_map _ hb,Result.andThen,setBlock]
  ·simp [he]
  ·rw [List.map_append]
   refine List.nodup_append.2 ⟨h3,by simp,fun x hx y hy e1=>?_⟩
   simp only [List.map_cons,List.map_nil,List.mem_singleton] at hy
   obtain ⟨p,hp,rfl⟩:=List.mem_map.1 hx
   exact hnew p hp (e1.trans hy)
  ·intro p hp
   rcases List.mem_append.1 hp with hp|hp
   ·exact h4 p hp
   ·simp only [List.mem_singleton] at hp;subst hp;exact ⟨kl,hkey⟩
 ·obtain ⟨v',hv',hv⟩:=entryV K ht hkf he g2 g3
  exact absurd rfl (hnew _ (List.mem_of_getElem? hv'))
theorem MapV.drop (h:MapV P k kf w b l) {a:α} {kl:Lit} (hkey:keyOf P k (kf a)=some kl) :
  ∃ w' l',(∀ ty,(Builtin.delete_ #[t,k] ty #[.map (some b),kf a]).run P w=.ok (.tuple #[]) w')∧MapV P k kf w' b l'∧(∀ q,q ∈ l' ↔ q ∈ l∧q.1≠a)∧Only b w w':=by
 obtain ⟨es,c,hb,he,h3,h4⟩:=h
 rcases K.find w hkey es.toList (keysV_of K ht hkf he h4) with ⟨g1,g2⟩|⟨j,e0,g1,g2,g3⟩
 ·have hno:=no_keyV K ht hkf he g2
  refine ⟨setBlock w b (.map es c),l,fun ty=>?_,⟨es,c,heap_setBlock_same hb _,he,h3,h4⟩,fun q=>⟨fun hq=>⟨hq,hno q hq⟩,fun hq=>hq.1⟩,only_set hb⟩
  simp [Builtin.delete_,run_underlying ht,MapKept.run_getObj_map hb,K.check w _ hkey,g1,MapKept.run_setObj_map _ hb,Result.andThen,setBlock]
 ·obtain ⟨v',hv',hv⟩:=entryV K ht hkf he g2 g3
  have hjl:j<es.toList.length:=(List.getElem?_eq_some_iff.1 g2).1
  have hjs:j<es.size:=by simpa using hjl
  have hsub:(es.eraseIdxIfInBounds j).toList=es.toList.eraseIdx j:=by
   unfold Array.eraseIdxIfInBounds
   rw [dif_pos hjs]
   simp
  refine ⟨setBlock w b (.map (es.eraseIdxIfInBounds j) c),l.eraseIdx j,fun ty=>?_,⟨es.eraseIdxIfInBounds j,c,heap_setBlock_same hb _,?_,?_,?_⟩,fun q=>?_,only_set hb⟩
  ·simp [Builtin.delete_,run_underlying ht,MapKept.run_getObj_map hb,K.check w _ hkey,g1,MapKept.run_setObj_map _ hb,Result.andThen,setBlock]
  ·rw [hsub,mapErase,he,mapErase]
  ·exact h3.sublist ((List.eraseIdx_sublist l j).map _)
  ·exact fun p hp=>h4 p ((List.eraseIdx_sublist l j).subset hp)
  ·obtain ⟨j1,j2⟩:=List.getElem?_eq_some_iff.1 hv'
   rw [List.mem_eraseIdx_iff_getElem?]
   constructor
   ·rintro ⟨i,hij,hi⟩
    refine ⟨List.mem_of_getElem? hi,fun hqa=>hij ?_⟩
    obtain ⟨i1,i2⟩:=List.getElem?_eq_some_iff.1 hi
    have h5:(l.map (·.1))[i]'(by simpa using i1)=(l.map (·.1))[j]'(by simpa using j1):=by simp [i2,j2,hqa]
    exact (List.getElem_inj h3).1 h5
   ·rintro ⟨hq,hqa⟩
    obtain ⟨i,hi⟩:=List.getElem?_of_mem hq
    refine ⟨i,fun hij=>hqa ?_,hi⟩
    subst hij
    rw [hv'] at hi
    cases hi
    rfl
end
end
end Gal
end
section
namespace Gal
open Go Go.RowKit Go.Maps Go.ChangeMaps
section
variable {α:Type} [DecidableEq α] {P:Program} {t k e:TypeId} {kf:α→Value} {w:World} {b:Nat} {l:List (α × Value)}
variable (K:Keyed P k) (ht:P.underlying t=some (.map k e)) (hkf:∀ {x y:α},kf x=kf y→x=y)
include K ht hkf
theorem MapV.there {v0:Value} (hz:∀ w,(zeroValue e).run P w=.ok v0 w) (hl:∀ p ∈ l,p.2=v0) (h:MapV P k kf w b l) {a:α} {kl:Lit} (hkey:keyOf P k (kf a)=some kl) {c:Bool} (hc:c=true ↔ ∃ p ∈ l,p.1=a) :
  (Instr.lookup t (.map (some b)) (kf a) true).run P w=.ok (.tuple #[v0,.bool c]) w:=by
 obtain ⟨es,cl,hb,he,h3,h4⟩:=h
 rcases K.find w hkey es.toList (keysV_of K ht hkf he h4) with ⟨g1,g2⟩|⟨j,e0,g1,g2,g3⟩
 ·have hno:=no_keyV K ht hkf he g2
  obtain rfl:c=false:=by
   cases c with
   | false=>rfl
   | true=>obtain ⟨p,hp,e⟩:=hc.1 rfl;exact absurd e (hno p hp)
  simp [Instr.lookup,run_underlying ht,MapKept.run_getObj_map hb,K.check w _ hkey,g1,hz,Result.andThen]
 ·obtain ⟨v',hv',hv⟩:=entryV K ht hkf he g2 g3
  obtain rfl:c=true:=hc.2 ⟨_,List.mem_of_getElem? hv',rfl⟩
  have h5:=hl _ (List.mem_of_getElem? hv')
  simp only at h5
  simp [Instr.lookup,run_underlying ht,MapKept.run_getObj_map hb,K.check w _ hkey,g1,Result.andThen,hv,h5]
end
end Gal
end
section
namespace Go.Proofs.YtchngeagnlngaaaGreatDoor
open Go.RowKit Gal
attribute [local go_sem ↓] Go.wp_at_zero Go.wp_at_succ
theorem info_int:(Tryz.prog.info? 3).map (fun i=>(i.zero,i.size,i.bytes))=some (some (.int .i64 0),1,8):=by kernel_rfl
set_option maxRecDepth 100000 in
set_option maxHeartbeats 1000000 in
theorem filled_any (R C:Nat) (hR:R≤24) (hC:C≤24) (fid:FuncId) (cs:Array Value) (g:Nat→Nat→Int) (w:World)
  (hcf:∀ (vs:Array Value) (W:World),(callFunc fid vs).run Tryz.prog W=.ok (.enter fid vs) W)
  (hg:∀ (i j:Nat),i<R→j<C→∀ W,Below w.heap.size w W→Calls Tryz.prog fid (#[.int .i64 i,.int .i64 j]++cs) W fun e W'=>e=.returned (.int .i64 (g i j))∧∃ n,W'=W.drewN n) :
  Calls Tryz.prog 106 #[.int .i64 R,.int .i64 C,.func (.func fid) #[] cs] w fun e w'=>
   ∃ a cap b,e=.returned (.agg #[.int .i64 R,.int .i64 C,.slice a (R*C:Nat) cap])∧(0<R*C→w.heap.size≤b)∧IntsAt w' a (R*C) cap b 0 (grid g C R)∧Below w.heap.size w w':=by
 have HG:=Lib.hid hg
 clear hg
 have hrc:R*C≤576:=Nat.mul_le_mul hR hC
 have hrc':(R:Int)*C≤576:=by rw [← Int.natCast_mul];omega
 have hrc0:0≤(R:Int)*C:=by rw [← Int.natCast_mul];omega
 obtain ⟨i0,hi,hz0,hz1,hz2⟩:=info_parts info_int
 have hmk:=fun W=>run_make_rowN (P:=Tryz.prog) 29 3 i0 _ Tryz.underlying29 hi hz0 .i64 .i64 0 (R*C) 0 (R*C) rfl (by rw [Int.natCast_mul]) (Nat.zero_le _) (by rw [hz2];omega) (by omega) W
 rw [hz1,Nat.mul_one] at hmk
 go_enter Tryz.func106,Tryz.ntmps106
 go_wp2
 go_loopw [18] (fun i wr=>∃ (k:Nat) (v:Value),k≤R∧i=.int .i64 k∧Below w.heap.size w wr∧Box wr w.heap.size [.int .i64 0,.int .i64 0,.slice none 0 0] 41 ∧
   Box wr (w.heap.size+1+1) [.int .i64 R,.int .i64 C,v] 41∧wr.ownsRow (w.heap.size+1) 3 1 v (k*C) ((grid g C k).map (Value.int .i64))) (fun i _=>R - (intOf i).toNat)
 case atStart=>
  refine ⟨0,.slice (some ⟨w.heap.size+1,0,none⟩) 0 (R*C),Nat.zero_le _,rfl,(((Below.refl _ _).alloc (Nat.le_refl _) _).alloc (by simp) _).alloc (by simp;omega) _,((Box.new _ _ _).alloc _).alloc _,?_,?_⟩
  ·exact Box.new' _ _ _ _ (by simp)
  ·rw [Nat.zero_mul]
   exact (own_made (w.alloc _) _ _ _ _ _ _ (by simp) (by simp) (by unfold maxLen;omega) (by rw [size_madeCells];omega)).alloc _
 case round=>
  obtain ⟨k,v,hk,rfl,hb,hB0,hBM,hown⟩:=hrel
  by_cases hlt:k<R
  ·go_wp2
   obtain ⟨wo,hwo⟩:∃ wo:World,wo=wr:=⟨_,rfl⟩
   go_loopw [22] (fun j wi=>∃ (l:Nat) (v:Value),l≤C∧j=.int .i64 l∧Below w.heap.size w wi∧Box wi w.heap.size [.int .i64 0,.int .i64 0,.slice none 0 0] 41 ∧
     Box wi (w.heap.size+1+1) [.int .i64 R,.int .i64 C,v] 41∧wi.ownsRow (w.heap.size+1) 3 1 v (k*C+l) ((gridTo g C k l).map (Value.int .i64))) (fun j _=>C - (intOf j).toNat)
   case atStart=>exact ⟨0,v,Nat.zero_le _,rfl,hb,hB0,hBM,by rw [gridTo_zero];exact hown⟩
   case round=>
    obtain ⟨l,v,hl,rfl,hb,hB0,hBM,hown⟩:=hrel
    by_cases hlt2:l<C
    ·have c2:=hBM.cell 2
     have f2:=hBM.thawed 2
     go_wp2
     have hvM:some (w.heap.size+1+1)≠v.ownBlock:=Ne.symm (own_ne hown hBM (by decide))
     have hv0:some w.heap.size≠v.ownBlock:=Ne.symm (own_ne hown hB0 (by decide))
     have hM:=hBM.lt
     have cA:=fun n o=>((hBM.drewN n).alloc o).cell 2
     have hkl:k*C+l<R*C:=by
      have:=Nat.mul_le_mul_right C (show k+1≤R by omega)
      rw [Nat.succ_mul] at this
      omega
     go_region_law (first|((refine at_oper ⟨some 32,_,_,_,_,_⟩ ?_;go_must (refine step_append_lies _ rfl (.tmp 26) (.tmp 31) 29 rfl (w.heap.size+1) 3 i0 (.int .i64 0) 1 8 Tryz.underlying29 hi hz0 hz1 hz2 (by rfl) (by decide) v (k*C+l) ((gridTo g C k l).map (Value.int .i64)) (by rfl) (by exact hown.alloc _) ⟨wr.heap.size,0,none⟩ 1 1 [.int .i64 (g k l)] (by rfl) (by rfl) (World.news_of_block (cs:=#[.int .i64 (g k l)]) (by exact heap_alloc_new wr _)) (by simp [Value.oneCell']) (by decide) (by unfold maxLen;omega) (by omega) (by simp;omega) (wr.heap.size+1) (by simp) ?_);intro g1 cap1 w1 hown1 hgrow hat hlt1;have hB1:=(((hBM.drewN _).alloc _).grown hgrow hvM);have c21:=hB1.cell 2;have f21:=hB1.thawed 2))|(go_simp;refine (HG.out k l hlt hlt2 _ ?_).mono ?_;(exact hb.drew);rintro e W' ⟨rfl,nd,rfl⟩))
     all_goals (
      go_wp2
      go_roundw
      case rel=>exact ⟨l+1,.slice (some ⟨g1,0,none⟩) (k*C+l+1) cap1,by omega,by go_num,(below_append hb (by omega) hown (Nat.le_succ _) hgrow).setCell (by simp;omega) _,
       (((hB0.drewN _).alloc _).grown hgrow hv0).far (by simp;omega) _,hB1.set 2 _,by
        rw [← gridTo_cell,List.map_append];exact own_set hown1 (own_ne hown1 hB1 (by decide)) _⟩
      case measure=>simp [intOf];omega)
    ·go_wp2
     go_roundw
     case rel=>
      obtain rfl:l=C:=by omega
      exact ⟨k+1,v,by omega,by go_num,hb,hB0,hBM,by rw [Nat.succ_mul,← gridTo_row];exact hown⟩
     case measure=>simp [intOf];omega
  ·obtain rfl:k=R:=by omega
   obtain ⟨av,cv,rfl⟩:=own_slice hown
   have c0:=hBM.cell 0
   have c1:=hBM.cell 1
   have c2:=hBM.cell 2
   have d0:=hB0.cell 0
   have d1:=hB0.cell 1
   have d2:=hB0.cell 2
   have e0:=hB0.thawed
   have HO:=Lib.hid hown
   clear hown
   go_wp2
   obtain ⟨a',c',b',he,hbb,hin⟩:=IntsAt.of_own HO.out
   cases he
   have hd:some w.heap.size≠(Value.slice av (k*C) cv).ownBlock:=Ne.symm (own_ne HO.out hB0 (by decide))
   refine bodyPost_ret (v:=.agg #[.int .i64 k,.int .i64 C,.slice av (k*C) cv]) (by simp [results,Tryz.results106,go_sem,d0,d1,d2]) rfl ⟨av,cv,b',rfl,?_,?_,?_⟩
   ·intro h0;have:=hbb h0;omega
   ·exact ((hin.set (fun h0=>by have:=hbb h0;simp;omega) _).set (fun h0=>by have:=hbb h0;simp;omega) _).set (fun h0=>by have:=hbb h0;simp;omega) _
   ·exact ((hb.setCell (by simp) _).setCell (by simp) _).setCell (by simp) _
end Go.Proofs.YtchngeagnlngaaaGreatDoor
end
section
namespace Go.Proofs.YtchngeagnlngaaaGreatDoor
open Go.RowKit Gal
theorem info_int':(Tryz.prog.info? 3).map (fun i=>(i.zero,i.size,i.bytes))=some (some (.int .i64 0),1,8):=by kernel_rfl
theorem ints1 {w:World} {b:Nat} {x:Int} {t:TypeId} (h:Box w b [.int .i64 x] t):IntsAt w (some ⟨b,0,none⟩) 1 1 b 0 [x]:=by
 refine ⟨rfl,Nat.le_refl _,by unfold maxLen;omega,fun _=>rfl,fun _=>h.lt,fun i hi=>?_⟩
 obtain rfl:i=0:=by omega
 exact (h.cell _).trans rfl
end Go.Proofs.YtchngeagnlngaaaGreatDoor
end
section
namespace Go.Proofs.YtchngeagnlngaaaGreatDoor
open Go.RowKit Gal
set_option maxRecDepth 100000 in
set_option maxHeartbeats 1000000 in
theorem batchSizes_ok (R P:Nat) (w:World) (hR:R≤24) (hP:P≤12) (h1:1≤P) (hPR:P≤R) :
  Calls Tryz.prog 97 #[.int .i64 R,.int .i64 P] w fun e w'=>∃ v,e=.returned (.tuple #[v,.nilIface]) ∧
   w'.ownsRow w.heap.size 3 1 v P ((ints (sizesOf R P)).map (Value.int .i64))∧Below w.heap.size w w':=by
 obtain ⟨i0,hi,hz0,hz1,hz2⟩:=info_parts info_int
 have hRP:decide (R<P)=false:=decide_eq_false (by omega)
 go_enter Tryz.func97,Tryz.ntmps97
 go_wp2
 go_loopw [0,6,7,8] (fun r o l n wr=>∃ (left R':Nat) (pre:List Nat),l=.int .i64 left∧r=.int .i64 R'∧R'≤24∧left≤R'∧Hid (sizesOf R P=pre++sizesOf R' left)∧pre.length+left=P ∧
   wr.ownsRow w.heap.size 3 1 o pre.length ((ints pre).map (Value.int .i64))∧Below w.heap.size w wr) (fun r o l n _=>(intOf l).toNat)
 case atStart=>exact ⟨P,R,[],rfl,rfl,hR,hPR,Lib.hid rfl,by simp,World.ownsRow_nil _ _ _ _,Below.refl _ _⟩
 case round=>
  obtain ⟨left,R',pre,rfl,rfl,hR',hlR,hs,hl,hown,hb⟩:=hrel
  cases left with
  | zero=>
   obtain ⟨av,cv,rfl⟩:=own_slice hown
   go_wp2
   go_ret2
   refine ⟨_,rfl,?_,hb⟩
   have hs':=hs.out
   simp only [sizesOf,List.append_nil] at hs'
   rw [hs',← hl]
   exact hown
  | succ m=>
   have hq:((R':Int)+((m:Int)+1) - 1) / ((m:Int)+1)=(((R'+m) / (m+1):Nat):Int):=by
    have e:(R':Int)+((m:Int)+1) - 1=((R'+m:Nat):Int):=by omega
    rw [e]
    exact (Int.natCast_ediv _ _).symm
   have hd1:=share_le R' m
   have hd2:=share_rest hlR
   obtain ⟨q,hqq⟩:∃ q,(R'+m) / (m+1)=q:=⟨_,rfl⟩
   rw [hqq] at hq hd1 hd2
   have HQQ:=Lib.hid hqq
   clear hqq
   have hl2:(ints pre).length=pre.length:=ints_length _
   go_wp2_with (at_builtin;(refine wpList_append_ints rfl (.tmp 39) (.tmp 41) 29 rfl w.heap.size 3 i0 Tryz.underlying29 hi hz0 hz1 hz2 _ pre.length (ints pre) rfl (hown.alloc _) _ 1 1 wr.heap.size 0 [(q:Int)] rfl (ints1 (Box.new _ _ 3)) (by omega) (by have:=hb.size;simp;omega) ?_))
   intro v' w' hown' hgrow'
   have hbn:Below w.heap.size w w':=Below.grown (Below.al hb _) hgrow' (by have:=hb.size;simp;omega) (fun k hk=>(hown.lt k hk).1)
   obtain ⟨av,cv,rfl⟩:=own_slice hown'
   go_wp2
   go_roundw
   case rel=>
    refine ⟨m,R' - q,pre++[q],by go_num,by go_num,by omega,by omega,Lib.hid ?_,by simp;omega,?_,hbn⟩
    ·rw [hs.out,List.append_assoc]
     rw [sizesOf_succ,HQQ.out]
     rfl
    ·rw [ints_snoc,List.length_append]
     simpa using hown'
   case measure=>simp [intOf]
end Go.Proofs.YtchngeagnlngaaaGreatDoor
end
