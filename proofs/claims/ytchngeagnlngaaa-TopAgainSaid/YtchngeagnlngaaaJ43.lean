/- Texts joined: Mp. -/
import Derived.Test.YtchngeagnlngaaaJ03
import Derived.Maps.Own
import Derived.WideKeyEntry
section
set_option linter.unusedVariables false
set_option linter.unusedSimpArgs false
set_option linter.unusedSectionVars false
namespace Gal
open Go Go.RowKit Go.Maps Go.ChangeMaps
section
variable {α : Type} [DecidableEq α]
def look (l : List (α × Int)) (a : α) : Int := ((l.find? fun p => decide (p.1 = a)).map (·.2)).getD 0
theorem look_none {l : List (α × Int)} {a : α} (h : ∀ p ∈ l, p.1 ≠ a) : look l a = 0 := by
 unfold look
 rw [List.find?_eq_none.2 fun p hp => by simpa using h p hp]
 rfl
theorem look_some {l : List (α × Int)} {a : α} {p : α × Int} (hd : (l.map (·.1)).Nodup) (hp : p ∈ l) (ha : p.1 = a) : look l a = p.2 := by
 unfold look
 cases hf : l.find? fun p => decide (p.1 = a) with
 | none => exact absurd (List.find?_eq_none.1 hf p hp) (by simp [ha])
 | some q =>
  have h1 := List.mem_of_find?_eq_some hf
  have h2 := List.find?_some hf
  simp only [decide_eq_true_eq] at h2
  obtain ⟨i, hi, rfl⟩ := List.mem_iff_getElem.1 h1
  obtain ⟨j, hj, rfl⟩ := List.mem_iff_getElem.1 hp
  have h3 : (l.map (·.1))[i]'(by simpa using hi) = (l.map (·.1))[j]'(by simpa using hj) := by simp [h2, ha]
  have h4 := (List.getElem_inj hd).1 h3
  subst h4
  rfl
def MapIs (P : Program) (k : TypeId) (kf : α → Value) (w : World) (b : Nat) (l : List (α × Int)) : Prop :=
 ∃ es clock, w.heap[b]? = some (.map es clock) ∧ es.toList.map (fun e => (e.key, e.val)) = l.map (fun p => (kf p.1, Value.int .i64 p.2)) ∧ (∀ e ∈ es.toList, e.born < clock) ∧ (es.toList.map (·.born)).Nodup ∧
  (l.map (·.1)).Nodup ∧ ∀ p ∈ l, ∃ kl, keyOf P k (kf p.1) = some kl
variable {P : Program} {t k e : TypeId} {kf : α → Value} {w : World} {b : Nat} {l : List (α × Int)}
theorem MapIs.lt (h : MapIs P k kf w b l) : b < w.heap.size := by
 obtain ⟨es, c, hb, _⟩ := h
 exact heap_lt hb
theorem MapIs.block {w' : World} (h : MapIs P k kf w b l) (he : w'.heap[b]? = w.heap[b]?) : MapIs P k kf w' b l := by
 obtain ⟨es, c, hb, r⟩ := h
 exact ⟨es, c, he.trans hb, r⟩
theorem MapIs.keep {w' : World} (h : MapIs P k kf w b l) (hb : Below w.heap.size w w') : MapIs P k kf w' b l := h.block (hb.block b h.lt)
theorem MapIs.drew (h : MapIs P k kf w b l) : MapIs P k kf w.drew b l := h
theorem MapIs.drewN (h : MapIs P k kf w b l) (n : Nat) : MapIs P k kf (w.drewN n) b l := h
theorem MapIs.alloc (h : MapIs P k kf w b l) (o : Obj) : MapIs P k kf (w.alloc o) b l := h.block (Below.heap_alloc w o b h.lt)
theorem MapIs.far (h : MapIs P k kf w b l) {a : Addr} (hne : b ≠ a.block) (v : Value) : MapIs P k kf (w.setCell a v) b l := h.block (Below.heap_setCell w a v b hne)
theorem MapIs.new (w : World) : MapIs P k kf (w.alloc (.map #[] 0)) w.heap.size ([] : List (α × Int)) :=
 ⟨#[], 0, (MapKept.heap_alloc w _).1, rfl, by simp, by simp, by simp, by simp⟩
theorem MapIs.new' (w : World) (n : Nat) (hn : n = w.heap.size) : MapIs P k kf (w.alloc (.map #[] 0)) n ([] : List (α × Int)) := by subst hn; exact MapIs.new w
def Only (b : Nat) (w w' : World) : Prop := w.grownBy w' (some b) ∧ w'.heap.size = w.heap.size
theorem Only.below {w w' : World} (h : Only b w w') {B : Nat} {a : World} (hb : Below B a w) (hB : B ≤ b) (hs : B ≤ w.heap.size) : Below B a w' :=
 Below.grown hb h.1 hs fun k hk => by cases hk; exact hB
theorem Box.only {w w' : World} {c : Nat} {cs : List Value} {T : TypeId} (h : Box w c cs T) (ho : Only b w w') (hne : c ≠ b) : Box w' c cs T := h.grown ho.1 (by simpa using hne)
theorem only_set {w : World} {o : Obj} {es : Array MapEntry} {c : Nat} (hb : w.heap[b]? = some (.map es c)) : Only b w (setBlock w b o) :=
 ⟨⟨rfl, rfl, rfl, by simp [setBlock], fun i _ hi => heap_setBlock_other hb _ (fun e => hi (by rw [e]))⟩, by simp [setBlock]⟩
section
variable (K : Keyed P k) (ht : P.underlying t = some (.map k e)) (hz : ∀ w, (zeroValue e).run P w = .ok (.int .i64 0) w) (hkf : ∀ {x y : α}, kf x = kf y → x = y)
include K ht hz hkf
theorem mem_of_entry {es : Array MapEntry} (he : es.toList.map (fun e => (e.key, e.val)) = l.map (fun p => (kf p.1, Value.int .i64 p.2))) {j : Nat} {e0 : MapEntry} (h : es.toList[j]? = some e0) : ∃ p ∈ l, e0.key = kf p.1 ∧ e0.val = .int .i64 p.2 := by
 have h1 : (es.toList.map (fun e => (e.key, e.val)))[j]? = some (e0.key, e0.val) := by rw [List.getElem?_map, h]; rfl
 rw [he, List.getElem?_map] at h1
 cases hp : l[j]? with
 | none => rw [hp] at h1; cases h1
 | some p =>
  rw [hp] at h1
  simp only [Option.map_some, Option.some.injEq, Prod.mk.injEq] at h1
  exact ⟨p, List.mem_of_getElem? hp, h1.1.symm, h1.2.symm⟩
theorem keys_of {es : Array MapEntry} (he : es.toList.map (fun e => (e.key, e.val)) = l.map (fun p => (kf p.1, Value.int .i64 p.2))) (hk : ∀ p ∈ l, ∃ kl, keyOf P k (kf p.1) = some kl) : ∀ e ∈ es.toList, ∃ kl, keyOf P k e.key = some kl := fun e0 h0 => by
 obtain ⟨j, hj⟩ := List.getElem?_of_mem h0
 obtain ⟨p, hp, h1, _⟩ := mem_of_entry K ht hz hkf he hj
 rw [h1]
 exact hk p hp
theorem no_key {es : Array MapEntry} (he : es.toList.map (fun e => (e.key, e.val)) = l.map (fun p => (kf p.1, Value.int .i64 p.2))) {a : α} (h : ∀ x ∈ es.toList, x.key ≠ kf a) : ∀ p ∈ l, p.1 ≠ a := fun p hp hpa => by
 obtain ⟨j, hj⟩ := List.getElem?_of_mem hp
 have h1 : (l.map (fun p => (kf p.1, Value.int .i64 p.2)))[j]? = some (kf p.1, .int .i64 p.2) := by rw [List.getElem?_map, hj]; rfl
 rw [← he, List.getElem?_map] at h1
 cases hx : es.toList[j]? with
 | none => rw [hx] at h1; cases h1
 | some x =>
  rw [hx] at h1
  simp only [Option.map_some, Option.some.injEq, Prod.mk.injEq] at h1
  exact h x (List.mem_of_getElem? hx) (by rw [h1.1, hpa])
theorem MapIs.lookup (h : MapIs P k kf w b l) {a : α} {kl : Lit} (hkey : keyOf P k (kf a) = some kl) : (Instr.lookup t (.map (some b)) (kf a) false).run P w = .ok (.int .i64 (look l a)) w := by
 obtain ⟨es, c, hb, he, h1, h2, h3, h4⟩ := h
 rcases K.find w hkey es.toList (keys_of K ht hz hkf he h4) with ⟨g1, g2⟩ | ⟨j, e0, g1, g2, g3⟩
 ·rw [look_none (no_key K ht hz hkf he g2)]
  simp [Instr.lookup, run_underlying ht, MapKept.run_getObj_map hb, K.check w _ hkey, g1, hz, Result.andThen]
 ·obtain ⟨p, hp, q1, q2⟩ := mem_of_entry K ht hz hkf he g2
  rw [look_some h3 hp (hkf (q1.symm.trans g3)), ← q2]
  simp [Instr.lookup, run_underlying ht, MapKept.run_getObj_map hb, K.check w _ hkey, g1, Result.andThen]
theorem MapIs.update (h : MapIs P k kf w b l) {a : α} {kl : Lit} (hkey : keyOf P k (kf a) = some kl) (hnew : ∀ p ∈ l, p.1 ≠ a) (n : Int) :
  ∃ w', (Instr.mapUpdate t (.map (some b)) (kf a) (.int .i64 n)).run P w = .ok () w' ∧ MapIs P k kf w' b (l ++ [(a, n)]) ∧ Only b w w' := by
 obtain ⟨es, c, hb, he, h1, h2, h3, h4⟩ := h
 rcases K.find w hkey es.toList (keys_of K ht hz hkf he h4) with ⟨g1, g2⟩ | ⟨j, e0, g1, g2, g3⟩
 ·refine ⟨setBlock w b (.map (es.push ⟨kf a, .int .i64 n, c⟩) (c + 1)), ?_, ⟨es.push ⟨kf a, .int .i64 n, c⟩, c + 1, heap_setBlock_same hb _, ?_, ?_, ?_, ?_, ?_⟩, only_set hb⟩
  ·simp [Instr.mapUpdate, run_underlying ht, MapKept.run_getObj_map hb, K.check w false hkey, g1, MapKept.run_setObj_map _ hb, Result.andThen, setBlock]
  ·simp [he]
  ·intro x hx
   rw [Array.toList_push] at hx
   rcases List.mem_append.1 hx with hx | hx
   ·have := h1 x hx; omega
   ·simp only [List.mem_singleton] at hx; subst hx; exact Nat.lt_succ_self _
  ·rw [Array.toList_push, List.map_append]
   refine List.nodup_append.2 ⟨h2, by simp, fun x hx y hy e1 => ?_⟩
   simp only [List.map_cons, List.map_nil, List.mem_singleton] at hy
   obtain ⟨z, hz', rfl⟩ := List.mem_map.1 hx
   have := h1 z hz'
   omega
  ·rw [List.map_append]
   refine List.nodup_append.2 ⟨h3, by simp, fun x hx y hy e1 => ?_⟩
   simp only [List.map_cons, List.map_nil, List.mem_singleton] at hy
   obtain ⟨p, hp, rfl⟩ := List.mem_map.1 hx
   exact hnew p hp (e1.trans hy)
  ·intro p hp
   rcases List.mem_append.1 hp with hp | hp
   ·exact h4 p hp
   ·simp only [List.mem_singleton] at hp; subst hp; exact ⟨kl, hkey⟩
 ·obtain ⟨p, hp, q1, q2⟩ := mem_of_entry K ht hz hkf he g2
  exact absurd (hkf (q1.symm.trans g3)) (hnew p hp)
omit K hz hkf in
theorem MapIs.clear (h : MapIs P k kf w b l) : ∃ w', (∀ ty, (Builtin.clear_ #[t] ty #[.map (some b)]).run P w = .ok (.tuple #[]) w') ∧ MapIs P k kf w' b ([] : List (α × Int)) ∧ Only b w w' := by
 obtain ⟨es, c, hb, _⟩ := h
 refine ⟨setBlock w b (.map #[] c), fun ty => ?_, ⟨#[], c, heap_setBlock_same hb _, rfl, by simp, by simp, by simp, by simp⟩, only_set hb⟩
 simp [Builtin.clear_, run_underlying ht, MapKept.run_getObj_map hb, MapKept.run_setObj_map _ hb, Result.andThen, setBlock]
end
end
end Gal
end
