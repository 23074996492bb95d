/- Texts joined: Mp, PPlan. -/
import Derived.Test.YtchngeagnlngaaaJ06
import Derived.Maps.Own
import Derived.WideKeyEntry
import Derived.Test.YtchngeagnlngaaaJ02
section
set_option linter.unusedVariables false
set_option linter.unusedSimpArgs false
set_option linter.unusedSectionVars false
namespace Gal
open Go Go.RowKit Go.Maps Go.ChangeMaps
section
variable {α : Type} [DecidableEq α]
def look (l : List (α × Int)) (a : α) : Int := ((l.find? fun p => decide (p.1 = a)).map (·.2)).getD 0
def putAt (l : List (α × Int)) (a : α) (n : Int) : List (α × Int) := l.map fun p => if p.1 = a then (a, n) else p
theorem look_none {l : List (α × Int)} {a : α} (h : ∀ p ∈ l, p.1 ≠ a) : look l a = 0 := by
 unfold look
 rw [List.find?_eq_none.2 fun p hp => by simpa using h p hp]
 rfl
theorem look_some {l : List (α × Int)} {a : α} {p : α × Int} (hd : (l.map (·.1)).Nodup) (hp : p ∈ l) (ha : p.1 = a) : look l a = p.2 := by
 unfold look
 cases hf : l.find? fun p => decide (p.1 = a) with
 | none => exact absurd (List.find?_eq_none.1 hf p hp) (by simp [ha])
 | some q =>
  have h1 := List.mem_of_find?_eq_some hf
  have h2 := List.find?_some hf
  simp only [decide_eq_true_eq] at h2
  obtain ⟨i, hi, rfl⟩ := List.mem_iff_getElem.1 h1
  obtain ⟨j, hj, rfl⟩ := List.mem_iff_getElem.1 hp
  have h3 : (l.map (·.1))[i]'(by simpa using hi) = (l.map (·.1))[j]'(by simpa using hj) := by simp [h2, ha]
  have h4 := (List.getElem_inj hd).1 h3
  subst h4
  rfl
theorem look_met {l : List (α × Int)} {a : α} (hd : (l.map (·.1)).Nodup) (h1 : ∀ p ∈ l, p.2 = 1) (h : ∃ p ∈ l, p.1 = a) : look l a = 1 := by
 obtain ⟨p, hp, ha⟩ := h
 rw [look_some hd hp ha, h1 p hp]
theorem putAt_keys (l : List (α × Int)) (a : α) (n : Int) : (putAt l a n).map (·.1) = l.map (·.1) := by
 unfold putAt
 rw [List.map_map]
 refine List.map_congr_left fun p _ => ?_
 simp only [Function.comp]
 by_cases h : p.1 = a
 ·rw [if_pos h, h]
 ·rw [if_neg h]
theorem look_putAt {l : List (α × Int)} {a : α} {n : Int} (h : ∃ p ∈ l, p.1 = a) (hd : (l.map (·.1)).Nodup) : look (putAt l a n) a = n := by
 obtain ⟨p, hp, ha⟩ := h
 refine (look_some (p := (a, n)) (by rw [putAt_keys]; exact hd) ?_ rfl).trans rfl
 unfold putAt
 exact List.mem_map.2 ⟨p, hp, by rw [if_pos ha]⟩
def MapIs (P : Program) (k : TypeId) (kf : α → Value) (w : World) (b : Nat) (l : List (α × Int)) : Prop :=
 ∃ es clock, w.heap[b]? = some (.map es clock) ∧ es.toList.map (fun e => (e.key, e.val)) = l.map (fun p => (kf p.1, Value.int .i64 p.2)) ∧ (∀ e ∈ es.toList, e.born < clock) ∧ (es.toList.map (·.born)).Nodup ∧
  (l.map (·.1)).Nodup ∧ ∀ p ∈ l, ∃ kl, keyOf P k (kf p.1) = some kl
variable {P : Program} {t k e : TypeId} {kf : α → Value} {w : World} {b : Nat} {l : List (α × Int)}
theorem MapIs.lt (h : MapIs P k kf w b l) : b < w.heap.size := by
 obtain ⟨es, c, hb, _⟩ := h
 exact heap_lt hb
theorem MapIs.block {w' : World} (h : MapIs P k kf w b l) (he : w'.heap[b]? = w.heap[b]?) : MapIs P k kf w' b l := by
 obtain ⟨es, c, hb, r⟩ := h
 exact ⟨es, c, he.trans hb, r⟩
theorem MapIs.keep {w' : World} (h : MapIs P k kf w b l) (hb : Below w.heap.size w w') : MapIs P k kf w' b l := h.block (hb.block b h.lt)
theorem MapIs.drew (h : MapIs P k kf w b l) : MapIs P k kf w.drew b l := h
theorem MapIs.drewN (h : MapIs P k kf w b l) (n : Nat) : MapIs P k kf (w.drewN n) b l := h
theorem MapIs.alloc (h : MapIs P k kf w b l) (o : Obj) : MapIs P k kf (w.alloc o) b l := h.block (Below.heap_alloc w o b h.lt)
theorem MapIs.far (h : MapIs P k kf w b l) {a : Addr} (hne : b ≠ a.block) (v : Value) : MapIs P k kf (w.setCell a v) b l := h.block (Below.heap_setCell w a v b hne)
theorem MapIs.new (w : World) : MapIs P k kf (w.alloc (.map #[] 0)) w.heap.size ([] : List (α × Int)) :=
 ⟨#[], 0, (MapKept.heap_alloc w _).1, rfl, by simp, by simp, by simp, by simp⟩
theorem MapIs.new' (w : World) (n : Nat) (hn : n = w.heap.size) : MapIs P k kf (w.alloc (.map #[] 0)) n ([] : List (α × Int)) := by subst hn; exact MapIs.new w
def Only (b : Nat) (w w' : World) : Prop := w.grownBy w' (some b) ∧ w'.heap.size = w.heap.size
theorem Only.below {w w' : World} (h : Only b w w') {B : Nat} {a : World} (hb : Below B a w) (hB : B ≤ b) (hs : B ≤ w.heap.size) : Below B a w' :=
 Below.grown hb h.1 hs fun k hk => by cases hk; exact hB
theorem Box.only {w w' : World} {c : Nat} {cs : List Value} {T : TypeId} (h : Box w c cs T) (ho : Only b w w') (hne : c ≠ b) : Box w' c cs T := h.grown ho.1 (by simpa using hne)
theorem only_set {w : World} {o : Obj} {es : Array MapEntry} {c : Nat} (hb : w.heap[b]? = some (.map es c)) : Only b w (setBlock w b o) :=
 ⟨⟨rfl, rfl, rfl, by simp [setBlock], fun i _ hi => heap_setBlock_other hb _ (fun e => hi (by rw [e]))⟩, by simp [setBlock]⟩
section
variable (K : Keyed P k) (ht : P.underlying t = some (.map k e)) (hz : ∀ w, (zeroValue e).run P w = .ok (.int .i64 0) w) (hkf : ∀ {x y : α}, kf x = kf y → x = y)
include K ht hz hkf
theorem mem_of_entry {es : Array MapEntry} (he : es.toList.map (fun e => (e.key, e.val)) = l.map (fun p => (kf p.1, Value.int .i64 p.2))) {j : Nat} {e0 : MapEntry} (h : es.toList[j]? = some e0) : ∃ p ∈ l, e0.key = kf p.1 ∧ e0.val = .int .i64 p.2 := by
 have h1 : (es.toList.map (fun e => (e.key, e.val)))[j]? = some (e0.key, e0.val) := by rw [List.getElem?_map, h]; rfl
 rw [he, List.getElem?_map] at h1
 cases hp : l[j]? with
 | none => rw [hp] at h1; cases h1
 | some p =>
  rw [hp] at h1
  simp only [Option.map_some, Option.some.injEq, Prod.mk.injEq] at h1
  exact ⟨p, List.mem_of_getElem? hp, h1.1.symm, h1.2.symm⟩
theorem keys_of {es : Array MapEntry} (he : es.toList.map (fun e => (e.key, e.val)) = l.map (fun p => (kf p.1, Value.int .i64 p.2))) (hk : ∀ p ∈ l, ∃ kl, keyOf P k (kf p.1) = some kl) : ∀ e ∈ es.toList, ∃ kl, keyOf P k e.key = some kl := fun e0 h0 => by
 obtain ⟨j, hj⟩ := List.getElem?_of_mem h0
 obtain ⟨p, hp, h1, _⟩ := mem_of_entry K ht hz hkf he hj
 rw [h1]
 exact hk p hp
theorem no_key {es : Array MapEntry} (he : es.toList.map (fun e => (e.key, e.val)) = l.map (fun p => (kf p.1, Value.int .i64 p.2))) {a : α} (h : ∀ x ∈ es.toList, x.key ≠ kf a) : ∀ p ∈ l, p.1 ≠ a := fun p hp hpa => by
 obtain ⟨j, hj⟩ := List.getElem?_of_mem hp
 have h1 : (l.map (fun p => (kf p.1, Value.int .i64 p.2)))[j]? = some (kf p.1, .int .i64 p.2) := by rw [List.getElem?_map, hj]; rfl
 rw [← he, List.getElem?_map] at h1
 cases hx : es.toList[j]? with
 | none => rw [hx] at h1; cases h1
 | some x =>
  rw [hx] at h1
  simp only [Option.map_some, Option.some.injEq, Prod.mk.injEq] at h1
  exact h x (List.mem_of_getElem? hx) (by rw [h1.1, hpa])
theorem MapIs.lookup (h : MapIs P k kf w b l) {a : α} {kl : Lit} (hkey : keyOf P k (kf a) = some kl) : (Instr.lookup t (.map (some b)) (kf a) false).run P w = .ok (.int .i64 (look l a)) w := by
 obtain ⟨es, c, hb, he, h1, h2, h3, h4⟩ := h
 rcases K.find w hkey es.toList (keys_of K ht hz hkf he h4) with ⟨g1, g2⟩ | ⟨j, e0, g1, g2, g3⟩
 ·rw [look_none (no_key K ht hz hkf he g2)]
  simp [Instr.lookup, run_underlying ht, MapKept.run_getObj_map hb, K.check w _ hkey, g1, hz, Result.andThen]
 ·obtain ⟨p, hp, q1, q2⟩ := mem_of_entry K ht hz hkf he g2
  rw [look_some h3 hp (hkf (q1.symm.trans g3)), ← q2]
  simp [Instr.lookup, run_underlying ht, MapKept.run_getObj_map hb, K.check w _ hkey, g1, Result.andThen]
theorem MapIs.update (h : MapIs P k kf w b l) {a : α} {kl : Lit} (hkey : keyOf P k (kf a) = some kl) (hnew : ∀ p ∈ l, p.1 ≠ a) (n : Int) :
  ∃ w', (Instr.mapUpdate t (.map (some b)) (kf a) (.int .i64 n)).run P w = .ok () w' ∧ MapIs P k kf w' b (l ++ [(a, n)]) ∧ Only b w w' := by
 obtain ⟨es, c, hb, he, h1, h2, h3, h4⟩ := h
 rcases K.find w hkey es.toList (keys_of K ht hz hkf he h4) with ⟨g1, g2⟩ | ⟨j, e0, g1, g2, g3⟩
 ·refine ⟨setBlock w b (.map (es.push ⟨kf a, .int .i64 n, c⟩) (c + 1)), ?_, ⟨es.push ⟨kf a, .int .i64 n, c⟩, c + 1, heap_setBlock_same hb _, ?_, ?_, ?_, ?_, ?_⟩, only_set hb⟩
  ·simp [Instr.mapUpdate, run_underlying ht, MapKept.run_getObj_map hb, K.check w false hkey, g1, MapKept.run_setObj_map _ hb, Result.andThen, setBlock]
  ·simp [he]
  ·intro x hx
   rw [Array.toList_push] at hx
   rcases List.mem_append.1 hx with hx | hx
   ·have := h1 x hx; omega
   ·simp only [List.mem_singleton] at hx; subst hx; exact Nat.lt_succ_self _
  ·rw [Array.toList_push, List.map_append]
   refine List.nodup_append.2 ⟨h2, by simp, fun x hx y hy e1 => ?_⟩
   simp only [List.map_cons, List.map_nil, List.mem_singleton] at hy
   obtain ⟨z, hz', rfl⟩ := List.mem_map.1 hx
   have := h1 z hz'
   omega
  ·rw [List.map_append]
   refine List.nodup_append.2 ⟨h3, by simp, fun x hx y hy e1 => ?_⟩
   simp only [List.map_cons, List.map_nil, List.mem_singleton] at hy
   obtain ⟨p, hp, rfl⟩ := List.mem_map.1 hx
   exact hnew p hp (e1.trans hy)
  ·intro p hp
   rcases List.mem_append.1 hp with hp | hp
   ·exact h4 p hp
   ·simp only [List.mem_singleton] at hp; subst hp; exact ⟨kl, hkey⟩
 ·obtain ⟨p, hp, q1, q2⟩ := mem_of_entry K ht hz hkf he g2
  exact absurd (hkf (q1.symm.trans g3)) (hnew p hp)
theorem look_touch {a : α} (hnew : ∀ p ∈ l, p.1 ≠ a) (x : α) : look (l ++ [(a, 0)]) x = look l x := by
 unfold look
 rw [List.find?_append]
 cases hf : l.find? fun p => decide (p.1 = x) with
 | some q => rfl
 | none =>
  by_cases h : a = x
  ·simp [h]
  ·simp [h]
theorem push_is {es : Array MapEntry} {c : Nat} {a : α} {kl : Lit} {n : Int} (hkey : keyOf P k (kf a) = some kl) (hnew : ∀ p ∈ l, p.1 ≠ a) (he : es.toList.map (fun e => (e.key, e.val)) = l.map (fun p => (kf p.1, Value.int .i64 p.2))) (h1 : ∀ e ∈ es.toList, e.born < c) (h2 : (es.toList.map (·.born)).Nodup)
  (h3 : (l.map (·.1)).Nodup) (h4 : ∀ p ∈ l, ∃ kl, keyOf P k (kf p.1) = some kl) {w' : World} (hb : w'.heap[b]? = some (.map (es.push ⟨kf a, .int .i64 n, c⟩) (c + 1))) : MapIs P k kf w' b (l ++ [(a, n)]) := by
 refine ⟨es.push ⟨kf a, .int .i64 n, c⟩, c + 1, hb, by simp [he], ?_, ?_, ?_, ?_⟩
 ·intro x hx
  rw [Array.toList_push] at hx
  rcases List.mem_append.1 hx with hx | hx
  ·have := h1 x hx; omega
  ·simp only [List.mem_singleton] at hx; subst hx; exact Nat.lt_succ_self _
 ·rw [Array.toList_push, List.map_append]
  refine List.nodup_append.2 ⟨h2, by simp, fun x hx y hy e1 => ?_⟩
  simp only [List.map_cons, List.map_nil, List.mem_singleton] at hy
  obtain ⟨z, hz', rfl⟩ := List.mem_map.1 hx
  have := h1 z hz'
  omega
 ·rw [List.map_append]
  refine List.nodup_append.2 ⟨h3, by simp, fun x hx y hy e1 => ?_⟩
  simp only [List.map_cons, List.map_nil, List.mem_singleton] at hy
  obtain ⟨p, hp, rfl⟩ := List.mem_map.1 hx
  exact hnew p hp (e1.trans hy)
 ·intro p hp
  rcases List.mem_append.1 hp with hp | hp
  ·exact h4 p hp
  ·simp only [List.mem_singleton] at hp; subst hp; exact ⟨kl, hkey⟩
theorem MapIs.entry_new (h : MapIs P k kf w b l) {a : α} {kl : Lit} (hkey : keyOf P k (kf a) = some kl) (hnew : ∀ p ∈ l, p.1 ≠ a) :
  ∃ (st : Nat) (w1 : World), (Instr.mapEntry t (.map (some b)) (kf a)).run P w = .ok (.tuple #[.int .i64 0, .int .i64 st]) w1 ∧ MapIs P k kf w1 b (l ++ [(a, 0)]) ∧ Only b w w1 ∧
   ∀ (w2 : World) (n : Int), w2.heap[b]? = w1.heap[b]? → ∃ w3, (Instr.entryStore t (.map (some b)) (.int .i64 st) (.int .i64 n)).run P w2 = .ok () w3 ∧ MapIs P k kf w3 b (l ++ [(a, n)]) ∧ Only b w2 w3 := by
 obtain ⟨es, c, hb, he, h1, h2, h3, h4⟩ := h
 rcases K.find w hkey es.toList (keys_of K ht hz hkf he h4) with ⟨g1, g2⟩ | ⟨j, e0, g1, g2, g3⟩
 ·have hb1 : (setBlock w b (.map (es.push ⟨kf a, .int .i64 0, c⟩) (c + 1))).heap[b]? = some (.map (es.push ⟨kf a, .int .i64 0, c⟩) (c + 1)) := heap_setBlock_same hb _
  refine ⟨c, setBlock w b (.map (es.push ⟨kf a, .int .i64 0, c⟩) (c + 1)), ?_, push_is K ht hz hkf hkey hnew he h1 h2 h3 h4 hb1, only_set hb, fun w2 n hw2 => ?_⟩
  ·simp [Instr.mapEntry, run_underlying ht, MapKept.run_getObj_map hb, K.check w false hkey, g1, hz, goInt, MapKept.run_setObj_map _ hb, Result.andThen, setBlock]
  ·have hw2' := hw2.trans hb1
   refine ⟨setBlock w2 b (.map (es.push ⟨kf a, .int .i64 n, c⟩) (c + 1)), ?_, push_is K ht hz hkf hkey hnew he h1 h2 h3 h4 (heap_setBlock_same hw2' _), only_set hw2'⟩
   have hidx : (es.push ⟨kf a, .int .i64 0, c⟩).findIdx? (fun e => ((e.born : Nat) : Int) == ((c : Nat) : Int)) = some es.size := by
    rw [WideElems.findIdx_arr]
    have := WideElems.findIdx_born (l := (es.push ⟨kf a, .int .i64 0, c⟩).toList) (j := es.size) (e0 := ⟨kf a, .int .i64 0, c⟩) (by
     simp only [Array.toList_push, List.map_append, List.map_cons, List.map_nil]
     refine List.nodup_append.2 ⟨h2, by simp, fun x hx y hy e1 => ?_⟩
     simp only [List.mem_singleton] at hy
     obtain ⟨z, hz', rfl⟩ := List.mem_map.1 hx
     have := h1 z hz'
     omega) (by simp)
    exact this
   have hmod : (es.push ⟨kf a, .int .i64 0, c⟩).modify es.size (fun e => { e with val := .int .i64 n }) = es.push ⟨kf a, .int .i64 n, c⟩ := by
    apply Array.ext'
    rw [Array.toList_modify, Array.toList_push, Array.toList_push, ← Array.length_toList, WideElems.modify_last]
   simp [Instr.entryStore, MapKept.run_getObj_map hw2', asInt, asIntOf, hidx, hmod, MapKept.run_setObj_map _ hw2', Result.andThen, setBlock]
 ·obtain ⟨p, hp, q1, q2⟩ := mem_of_entry K ht hz hkf he g2
  exact absurd (hkf (q1.symm.trans g3)) (hnew p hp)
theorem MapIs.entry_old (h : MapIs P k kf w b l) {a : α} {kl : Lit} (hkey : keyOf P k (kf a) = some kl) (hold : ∃ p ∈ l, p.1 = a) :
  ∃ (st : Nat) (w1 : World), (Instr.mapEntry t (.map (some b)) (kf a)).run P w = .ok (.tuple #[.int .i64 (look l a), .int .i64 st]) w1 ∧ MapIs P k kf w1 b l ∧ Only b w w1 ∧
   ∀ (w2 : World) (n : Int), w2.heap[b]? = w1.heap[b]? → ∃ w3, (Instr.entryStore t (.map (some b)) (.int .i64 st) (.int .i64 n)).run P w2 = .ok () w3 ∧ MapIs P k kf w3 b (putAt l a n) ∧ Only b w2 w3 := by
 obtain ⟨es, c, hb, he, h1, h2, h3, h4⟩ := h
 rcases K.find w hkey es.toList (keys_of K ht hz hkf he h4) with ⟨g1, g2⟩ | ⟨j, e0, g1, g2, g3⟩
 ·obtain ⟨p, hp, hpa⟩ := hold
  exact absurd hpa (no_key K ht hz hkf he g2 p hp)
 ·obtain ⟨p, hp, q1, q2⟩ := mem_of_entry K ht hz hkf he g2
  have hj : es[j]? = some e0 := by simpa using g2
  have hsame : es.modify j (fun e => { e with key := kf a }) = es := by
   apply Array.ext'
   rw [Array.toList_modify, modify_eq_set _ _ _ _ g2]
   have : ({ e0 with key := kf a } : MapEntry) = e0 := by rw [← g3]
   rw [this]
   exact WideElems.set_self _ _ _ g2
  have hb1 : (setBlock w b (.map es c)).heap[b]? = some (.map es c) := heap_setBlock_same hb _
  refine ⟨e0.born, setBlock w b (.map es c), ?_, ⟨es, c, hb1, he, h1, h2, h3, h4⟩, only_set hb, fun w2 n hw2 => ?_⟩
  ·rw [look_some h3 hp (hkf (q1.symm.trans g3)), ← q2]
   simp [Instr.mapEntry, run_underlying ht, MapKept.run_getObj_map hb, K.check w false hkey, g1, hj, g3, K.stays w hkey, hsame, goInt, MapKept.run_setObj_map _ hb, Result.andThen, setBlock]
  ·have hw2' := hw2.trans hb1
   have hidx : es.findIdx? (fun e => ((e.born : Nat) : Int) == ((e0.born : Nat) : Int)) = some j := by
    rw [WideElems.findIdx_arr]
    exact WideElems.findIdx_born h2 g2
   refine ⟨setBlock w2 b (.map (es.modify j fun e => { e with val := .int .i64 n }) c), ?_, ⟨es.modify j fun e => { e with val := .int .i64 n }, c, heap_setBlock_same hw2' _, ?_, ?_, ?_, ?_, ?_⟩, only_set hw2'⟩
   ·simp [Instr.entryStore, MapKept.run_getObj_map hw2', asInt, asIntOf, hidx, MapKept.run_setObj_map _ hw2', Result.andThen, setBlock]
   ·rw [Array.toList_modify, modify_eq_set _ _ _ _ g2, List.map_set, he]
    apply List.ext_getElem?
    intro i
    unfold putAt
    rw [List.map_map, List.getElem?_set, List.getElem?_map, List.getElem?_map]
    have hjl : (l.map (fun p => (kf p.1, Value.int .i64 p.2)))[j]? = some (e0.key, e0.val) := by rw [← he, List.getElem?_map, g2]; rfl
    rw [List.getElem?_map] at hjl
    have hlen : j < (l.map (fun p => (kf p.1, Value.int .i64 p.2))).length := by
     rcases Nat.lt_or_ge j (l.map (fun p => (kf p.1, Value.int .i64 p.2))).length with h5 | h5
     ·exact h5
     ·rw [List.length_map] at h5; rw [List.getElem?_eq_none h5] at hjl; cases hjl
    by_cases hij : j = i
    ·subst hij
     rw [if_pos rfl, if_pos hlen]
     cases hq : l[j]? with
     | none => rw [hq] at hjl; cases hjl
     | some q =>
      rw [hq] at hjl
      simp only [Option.map_some, Option.some.injEq, Prod.mk.injEq] at hjl
      have hqa : q.1 = a := hkf (hjl.1.trans g3)
      simp [hqa, g3]
    ·rw [if_neg hij]
     cases hq : l[i]? with
     | none => rfl
     | some q =>
      have hqa : q.1 ≠ a := fun e1 => by
       cases hq2 : l[j]? with
       | none => rw [hq2] at hjl; cases hjl
       | some q' =>
        rw [hq2] at hjl
        simp only [Option.map_some, Option.some.injEq, Prod.mk.injEq] at hjl
        have hqa' : q'.1 = a := hkf (hjl.1.trans g3)
        obtain ⟨i1, i2⟩ := List.getElem?_eq_some_iff.1 hq
        obtain ⟨j1, j2⟩ := List.getElem?_eq_some_iff.1 hq2
        have h5 : (l.map (·.1))[i]'(by simpa using i1) = (l.map (·.1))[j]'(by simpa using j1) := by simp [i2, j2, e1, hqa']
        exact hij ((List.getElem_inj h3).1 h5).symm
      simp [hqa]
   ·intro x hx
    rw [Array.toList_modify, modify_eq_set _ _ _ _ g2] at hx
    rcases List.mem_or_eq_of_mem_set hx with hx | hx
    ·exact h1 x hx
    ·subst hx; exact h1 e0 (List.mem_of_getElem? g2)
   ·rw [Array.toList_modify, modify_eq_set _ _ _ _ g2, List.map_set]
    rw [show (List.map (fun x => x.born) es.toList).set j e0.born = es.toList.map (·.born) from by
     refine WideElems.set_self _ _ _ ?_
     rw [List.getElem?_map, g2]; rfl]
    exact h2
   ·rw [putAt_keys]; exact h3
   ·intro x hx
    unfold putAt at hx
    obtain ⟨q, hq, rfl⟩ := List.mem_map.1 hx
    by_cases h5 : q.1 = a
    ·rw [if_pos h5]; exact ⟨kl, hkey⟩
    ·rw [if_neg h5]; exact h4 q hq
omit K hz hkf in
theorem MapIs.clear (h : MapIs P k kf w b l) : ∃ w', (∀ ty, (Builtin.clear_ #[t] ty #[.map (some b)]).run P w = .ok (.tuple #[]) w') ∧ MapIs P k kf w' b ([] : List (α × Int)) ∧ Only b w w' := by
 obtain ⟨es, c, hb, _⟩ := h
 refine ⟨setBlock w b (.map #[] c), fun ty => ?_, ⟨#[], c, heap_setBlock_same hb _, rfl, by simp, by simp, by simp, by simp⟩, only_set hb⟩
 simp [Builtin.clear_, run_underlying ht, MapKept.run_getObj_map hb, MapKept.run_setObj_map _ hb, Result.andThen, setBlock]
end
end
end Gal
end
section
set_option linter.unusedVariables false
set_option linter.unusedSimpArgs false
namespace Gal
abbrev ActD := Int × Int
def ax (l : List ActD) (i : Nat) : ActD := l[i]?.getD (0, 0)
theorem ax_get {l : List ActD} {i : Nat} (h : i < l.length) : l[i]? = some (ax l i) := by unfold ax; rw [List.getElem?_eq_getElem h]; rfl
def actOk (M : Int) (a : ActD) : Prop := (a.1 = 1 ∨ a.1 = 2) ∧ 0 ≤ a.2 ∧ a.2 < M
instance (M : Int) (a : ActD) : Decidable (actOk M a) := by unfold actOk; exact inferInstance
def ordAt (l : List ActD) (i : Nat) : Prop := (ax l i).1 = 2 → (1, (ax l i).2) ∈ l.take (i + 1)
instance (l : List ActD) (i : Nat) : Decidable (ordAt l i) := by unfold ordAt; exact inferInstance
def okTo (M : Int) (l : List ActD) (n : Nat) : Prop := ∀ i, i < n → actOk M (ax l i)
instance (M : Int) (l : List ActD) (n : Nat) : Decidable (okTo M l n) := by unfold okTo; exact inferInstance
def ordTo (l : List ActD) (n : Nat) : Prop := ∀ i, i < n → ordAt l i
instance (l : List ActD) (n : Nat) : Decidable (ordTo l n) := by unfold ordTo; exact inferInstance
def actsFault (M : Int) (l : List ActD) : Int :=
 if ¬ okTo M l l.length then 1 else if ¬ l.Nodup then 8 else if ¬ ((l.length : Int) = 2 * M) then 2 else if ¬ ordTo l l.length then 5 else 0
section
variable {M : Int} {l : List ActD}
theorem actsFault_1 {t : Nat} (ht : t < l.length) (h : ¬ actOk M (ax l t)) : actsFault M l = 1 := by unfold actsFault; exact if_pos fun h1 => h (h1 t ht)
theorem actsFault_8 (h1 : okTo M l l.length) (h2 : ¬ l.Nodup) : actsFault M l = 8 := by unfold actsFault; rw [if_neg (by simpa using h1), if_pos h2]
theorem actsFault_2 (h1 : okTo M l l.length) (h2 : l.Nodup) (h3 : ¬ ((l.length : Int) = 2 * M)) : actsFault M l = 2 := by unfold actsFault; rw [if_neg (by simpa using h1), if_neg (by simpa using h2), if_pos h3]
theorem actsFault_5 {t : Nat} (h1 : okTo M l l.length) (h2 : l.Nodup) (h3 : (l.length : Int) = 2 * M) (ht : t < l.length) (h4 : ¬ ordAt l t) : actsFault M l = 5 := by
 unfold actsFault; rw [if_neg (by simpa using h1), if_neg (by simpa using h2), if_neg (by simpa using h3), if_pos fun h5 => h4 (h5 t ht)]
theorem actsFault_0 (h1 : okTo M l l.length) (h2 : l.Nodup) (h3 : (l.length : Int) = 2 * M) (h4 : ordTo l l.length) : actsFault M l = 0 := by
 unfold actsFault; rw [if_neg (by simpa using h1), if_neg (by simpa using h2), if_neg (by simpa using h3), if_neg (by simpa using h4)]
theorem take_ax {t : Nat} (h : t < l.length) : l.take (t + 1) = l.take t ++ [ax l t] := by
 rw [List.take_succ_eq_append_getElem h]
 have := ax_get h
 rw [List.getElem?_eq_getElem h] at this
 simp only [Option.some.injEq] at this
 rw [this]
theorem nodup_next {t : Nat} (h : t < l.length) (h1 : (l.take t).Nodup) (h2 : ax l t ∉ l.take t) : (l.take (t + 1)).Nodup := by
 rw [take_ax h]
 refine List.nodup_append.2 ⟨h1, by simp, fun x hx y hy e1 => ?_⟩
 simp only [List.mem_singleton] at hy
 subst e1; subst hy
 exact h2 hx
theorem nodup_no {t : Nat} (h : t < l.length) (h2 : ax l t ∈ l.take t) : ¬ l.Nodup := fun hn => by
 have h3 : (l.take (t + 1)).Nodup := hn.sublist (List.take_sublist _ _)
 rw [take_ax h] at h3
 exact (List.nodup_append.1 h3).2.2 _ h2 _ (List.mem_singleton.2 rfl) rfl
def metOf (l : List ActD) : List (ActD × Int) := l.map fun a => (a, 1)
theorem metOf_snoc (l : List ActD) (a : ActD) : metOf (l ++ [a]) = metOf l ++ [(a, 1)] := by simp [metOf]
theorem met_not {l : List ActD} {a : ActD} (h : a ∉ l) : ∀ p ∈ metOf l, p.1 ≠ a := fun p hp e => by
 obtain ⟨x, hx, rfl⟩ := List.mem_map.1 hp
 exact h (e ▸ hx)
theorem met_is {l : List ActD} {a : ActD} (h : a ∈ l) : ∃ p ∈ metOf l, p.1 = a := ⟨(a, 1), List.mem_map.2 ⟨a, h, rfl⟩, rfl⟩
theorem small_act {a : ActD} (h : actOk 12 a) : ∃ i j : Nat, i < 2 ∧ j < 12 ∧ a = ((i : Int) + 1, (j : Int)) := by
 obtain ⟨h1, h2, h3⟩ := h
 refine ⟨(a.1 - 1).toNat, a.2.toNat, by omega, by omega, Prod.ext ?_ ?_⟩ <;> (dsimp only; omega)
theorem met_keys (l : List ActD) : (metOf l).map (·.1) = l := by unfold metOf; rw [List.map_map]; exact List.map_id l
end
end Gal
end
