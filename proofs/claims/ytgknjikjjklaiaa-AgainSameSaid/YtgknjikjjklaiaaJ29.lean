/- Texts joined: Mp3. -/
import Derived.Test.YtgknjikjjklaiaaJ28
section
set_option linter.unusedVariables false
set_option linter.unusedSimpArgs false
set_option linter.unusedSectionVars false
namespace Gal
open Go Go.RowKit Go.Maps Go.ChangeMaps
theorem mapErase {α β : Type} (f : α → β) : ∀ (l : List α) (j : Nat), (l.eraseIdx j).map f = (l.map f).eraseIdx j
 | [], j => by simp
 | x :: l, 0 => by simp
 | x :: l, j + 1 => by simp [List.eraseIdx_cons_succ, mapErase f l j]
section
variable {α : Type} [DecidableEq α]
def MapV (P : Program) (k : TypeId) (kf : α → Value) (w : World) (b : Nat) (l : List (α × Value)) : Prop :=
 ∃ es clock, w.heap[b]? = some (.map es clock) ∧ es.toList.map (fun e => (e.key, e.val)) = l.map (fun p => (kf p.1, p.2)) ∧ (l.map (·.1)).Nodup ∧ ∀ p ∈ l, ∃ kl, keyOf P k (kf p.1) = some kl
variable {P : Program} {t k e : TypeId} {kf : α → Value} {w : World} {b : Nat} {l : List (α × Value)}
theorem MapV.lt (h : MapV P k kf w b l) : b < w.heap.size := by
 obtain ⟨es, c, hb, _⟩ := h
 exact heap_lt hb
theorem MapV.block {w' : World} (h : MapV P k kf w b l) (he : w'.heap[b]? = w.heap[b]?) : MapV P k kf w' b l := by
 obtain ⟨es, c, hb, r⟩ := h
 exact ⟨es, c, he.trans hb, r⟩
theorem MapV.keep {w' : World} (h : MapV P k kf w b l) (hb : Below w.heap.size w w') : MapV P k kf w' b l := h.block (hb.block b h.lt)
theorem MapV.drew (h : MapV P k kf w b l) : MapV P k kf w.drew b l := h
theorem MapV.drewN (h : MapV P k kf w b l) (n : Nat) : MapV P k kf (w.drewN n) b l := h
theorem MapV.alloc (h : MapV P k kf w b l) (o : Obj) : MapV P k kf (w.alloc o) b l := h.block (Below.heap_alloc w o b h.lt)
theorem MapV.far (h : MapV P k kf w b l) {a : Addr} (hne : b ≠ a.block) (v : Value) : MapV P k kf (w.setCell a v) b l := h.block (Below.heap_setCell w a v b hne)
theorem MapV.new (w : World) : MapV P k kf (w.alloc (.map #[] 0)) w.heap.size ([] : List (α × Value)) :=
 ⟨#[], 0, (MapKept.heap_alloc w _).1, rfl, by simp, by simp⟩
section
variable (K : Keyed P k) (ht : P.underlying t = some (.map k e)) (hkf : ∀ {x y : α}, kf x = kf y → x = y)
include K ht hkf
theorem keysV_of {es : Array MapEntry} (he : es.toList.map (fun e => (e.key, e.val)) = l.map (fun p => (kf p.1, p.2))) (hk : ∀ p ∈ l, ∃ kl, keyOf P k (kf p.1) = some kl) : ∀ e ∈ es.toList, ∃ kl, keyOf P k e.key = some kl := fun e0 h0 => by
 have h1 : (e0.key, e0.val) ∈ es.toList.map (fun e => (e.key, e.val)) := List.mem_map.2 ⟨e0, h0, rfl⟩
 rw [he] at h1
 obtain ⟨p, hp, h2⟩ := List.mem_map.1 h1
 have h3 : kf p.1 = e0.key := congrArg Prod.fst h2
 rw [← h3]
 exact hk p hp
theorem no_keyV {es : Array MapEntry} (he : es.toList.map (fun e => (e.key, e.val)) = l.map (fun p => (kf p.1, p.2))) {a : α} (h : ∀ x ∈ es.toList, x.key ≠ kf a) : ∀ p ∈ l, p.1 ≠ a := fun p hp hpa => by
 have h1 : (kf p.1, p.2) ∈ l.map (fun p => (kf p.1, p.2)) := List.mem_map.2 ⟨p, hp, rfl⟩
 rw [← he] at h1
 obtain ⟨x, hx, h2⟩ := List.mem_map.1 h1
 have h3 : x.key = kf p.1 := congrArg Prod.fst h2
 exact h x hx (by rw [h3, hpa])
theorem entryV {es : Array MapEntry} (he : es.toList.map (fun e => (e.key, e.val)) = l.map (fun p => (kf p.1, p.2))) {j : Nat} {e0 : MapEntry} {a : α} (h2 : es.toList[j]? = some e0) (h3 : e0.key = kf a) : ∃ v, l[j]? = some (a, v) ∧ e0.val = v := by
 have h1 : (es.toList.map (fun e => (e.key, e.val)))[j]? = some (e0.key, e0.val) := by rw [List.getElem?_map, h2]; rfl
 rw [he, List.getElem?_map] at h1
 cases hp : l[j]? with
 | none => rw [hp] at h1; cases h1
 | some p =>
  rw [hp] at h1
  simp only [Option.map_some, Option.some.injEq, Prod.mk.injEq] at h1
  obtain ⟨p1, p2⟩ := p
  have h4 : p1 = a := hkf (h1.1.trans h3)
  exact ⟨p2, by rw [h4], h1.2.symm⟩
theorem MapV.lookup (h : MapV P k kf w b l) {a : α} {v : Value} {kl : Lit} (hkey : keyOf P k (kf a) = some kl) (hmem : (a, v) ∈ l) : (Instr.lookup t (.map (some b)) (kf a) false).run P w = .ok v w := by
 obtain ⟨es, c, hb, he, h3, h4⟩ := h
 rcases K.find w hkey es.toList (keysV_of K ht hkf he h4) with ⟨g1, g2⟩ | ⟨j, e0, g1, g2, g3⟩
 ·exact absurd rfl (no_keyV K ht hkf he g2 _ hmem)
 ·obtain ⟨v', hv', hv⟩ := entryV K ht hkf he g2 g3
  obtain ⟨i, hi⟩ := List.getElem?_of_mem hmem
  obtain ⟨i1, i2⟩ := List.getElem?_eq_some_iff.1 hi
  obtain ⟨j1, j2⟩ := List.getElem?_eq_some_iff.1 hv'
  have h5 : (l.map (·.1))[i]'(by simpa using i1) = (l.map (·.1))[j]'(by simpa using j1) := by simp [i2, j2]
  obtain rfl := (List.getElem_inj h3).1 h5
  have h6 : v' = v := by
   have := hv'.symm.trans hi
   simpa using this
  simp [Instr.lookup, run_underlying ht, MapKept.run_getObj_map hb, K.check w _ hkey, g1, Result.andThen, hv, h6]
theorem MapV.update (h : MapV P k kf w b l) {a : α} {kl : Lit} (hkey : keyOf P k (kf a) = some kl) (hnew : ∀ p ∈ l, p.1 ≠ a) (v : Value) :
  ∃ w', (Instr.mapUpdate t (.map (some b)) (kf a) v).run P w = .ok () w' ∧ MapV P k kf w' b (l ++ [(a, v)]) ∧ Only b w w' := by
 obtain ⟨es, c, hb, he, h3, h4⟩ := h
 rcases K.find w hkey es.toList (keysV_of K ht hkf he h4) with ⟨g1, g2⟩ | ⟨j, e0, g1, g2, g3⟩
 ·refine ⟨setBlock w b (.map (es.push ⟨kf a, v, c⟩) (c + 1)), ?_, ⟨es.push ⟨kf a, v, c⟩, c + 1, heap_setBlock_same hb _, ?_, ?_, ?_⟩, only_set hb⟩
  ·simp [Instr.mapUpdate, run_underlying ht, MapKept.run_getObj_map hb, K.check w false hkey, g1, MapKept.run_setObj_map _ hb, Result.andThen, setBlock]
  ·simp [he]
  ·rw [List.map_append]
   refine List.nodup_append.2 ⟨h3, by simp, fun x hx y hy e1 => ?_⟩
   simp only [List.map_cons, List.map_nil, List.mem_singleton] at hy
   obtain ⟨p, hp, rfl⟩ := List.mem_map.1 hx
   exact hnew p hp (e1.trans hy)
  ·intro p hp
   rcases List.mem_append.1 hp with hp | hp
   ·exact h4 p hp
   ·simp only [List.mem_singleton] at hp; subst hp; exact ⟨kl, hkey⟩
 ·obtain ⟨v', hv', hv⟩ := entryV K ht hkf he g2 g3
  exact absurd rfl (hnew _ (List.mem_of_getElem? hv'))
theorem MapV.drop (h : MapV P k kf w b l) {a : α} {kl : Lit} (hkey : keyOf P k (kf a) = some kl) :
  ∃ w' l', (∀ ty, (Builtin.delete_ #[t, k] ty #[.map (some b), kf a]).run P w = .ok (.tuple #[]) w') ∧ MapV P k kf w' b l' ∧ (∀ q, q ∈ l' ↔ q ∈ l ∧ q.1 ≠ a) ∧ Only b w w' := by
 obtain ⟨es, c, hb, he, h3, h4⟩ := h
 rcases K.find w hkey es.toList (keysV_of K ht hkf he h4) with ⟨g1, g2⟩ | ⟨j, e0, g1, g2, g3⟩
 ·have hno := no_keyV K ht hkf he g2
  refine ⟨setBlock w b (.map es c), l, fun ty => ?_, ⟨es, c, heap_setBlock_same hb _, he, h3, h4⟩, fun q => ⟨fun hq => ⟨hq, hno q hq⟩, fun hq => hq.1⟩, only_set hb⟩
  simp [Builtin.delete_, run_underlying ht, MapKept.run_getObj_map hb, K.check w _ hkey, g1, MapKept.run_setObj_map _ hb, Result.andThen, setBlock]
 ·obtain ⟨v', hv', hv⟩ := entryV K ht hkf he g2 g3
  have hjl : j < es.toList.length := (List.getElem?_eq_some_iff.1 g2).1
  have hjs : j < es.size := by simpa using hjl
  have hsub : (es.eraseIdxIfInBounds j).toList = es.toList.eraseIdx j := by
   unfold Array.eraseIdxIfInBounds
   rw [dif_pos hjs]
   simp
  refine ⟨setBlock w b (.map (es.eraseIdxIfInBounds j) c), l.eraseIdx j, fun ty => ?_, ⟨es.eraseIdxIfInBounds j, c, heap_setBlock_same hb _, ?_, ?_, ?_⟩, fun q => ?_, only_set hb⟩
  ·simp [Builtin.delete_, run_underlying ht, MapKept.run_getObj_map hb, K.check w _ hkey, g1, MapKept.run_setObj_map _ hb, Result.andThen, setBlock]
  ·rw [hsub, mapErase, he, mapErase]
  ·exact h3.sublist ((List.eraseIdx_sublist l j).map _)
  ·exact fun p hp => h4 p ((List.eraseIdx_sublist l j).subset hp)
  ·obtain ⟨j1, j2⟩ := List.getElem?_eq_some_iff.1 hv'
   rw [List.mem_eraseIdx_iff_getElem?]
   constructor
   ·rintro ⟨i, hij, hi⟩
    refine ⟨List.mem_of_getElem? hi, fun hqa => hij ?_⟩
    obtain ⟨i1, i2⟩ := List.getElem?_eq_some_iff.1 hi
    have h5 : (l.map (·.1))[i]'(by simpa using i1) = (l.map (·.1))[j]'(by simpa using j1) := by simp [i2, j2, hqa]
    exact (List.getElem_inj h3).1 h5
   ·rintro ⟨hq, hqa⟩
    obtain ⟨i, hi⟩ := List.getElem?_of_mem hq
    refine ⟨i, fun hij => hqa ?_, hi⟩
    subst hij
    rw [hv'] at hi
    cases hi
    rfl
end
end
end Gal
end
