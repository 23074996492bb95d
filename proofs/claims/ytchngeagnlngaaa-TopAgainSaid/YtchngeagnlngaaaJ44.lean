/- Texts joined: Mp3, Again2, Cell7. -/
import Derived.Test.YtchngeagnlngaaaJ43
import Derived.Test.YtchngeagnlngaaaJ04
import Derived.Test.YtchngeagnlngaaaJ11
import Derived.IntWalk
import Derived.Test.YtchngeagnlngaaaJ25
section
set_option linter.unusedVariables false
set_option linter.unusedSimpArgs false
set_option linter.unusedSectionVars false
namespace Gal
open Go Go.RowKit Go.Maps Go.ChangeMaps
theorem mapErase {α β : Type} (f : α → β) : ∀ (l : List α) (j : Nat), (l.eraseIdx j).map f = (l.map f).eraseIdx j
 | [], j => by simp
 | x :: l, 0 => by simp
 | x :: l, j + 1 => by simp [List.eraseIdx_cons_succ, mapErase f l j]
section
variable {α : Type} [DecidableEq α]
def MapV (P : Program) (k : TypeId) (kf : α → Value) (w : World) (b : Nat) (l : List (α × Value)) : Prop :=
 ∃ es clock, w.heap[b]? = some (.map es clock) ∧ es.toList.map (fun e => (e.key, e.val)) = l.map (fun p => (kf p.1, p.2)) ∧ (l.map (·.1)).Nodup ∧ ∀ p ∈ l, ∃ kl, keyOf P k (kf p.1) = some kl
variable {P : Program} {t k e : TypeId} {kf : α → Value} {w : World} {b : Nat} {l : List (α × Value)}
theorem MapV.lt (h : MapV P k kf w b l) : b < w.heap.size := by
 obtain ⟨es, c, hb, _⟩ := h
 exact heap_lt hb
theorem MapV.block {w' : World} (h : MapV P k kf w b l) (he : w'.heap[b]? = w.heap[b]?) : MapV P k kf w' b l := by
 obtain ⟨es, c, hb, r⟩ := h
 exact ⟨es, c, he.trans hb, r⟩
theorem MapV.keep {w' : World} (h : MapV P k kf w b l) (hb : Below w.heap.size w w') : MapV P k kf w' b l := h.block (hb.block b h.lt)
theorem MapV.drew (h : MapV P k kf w b l) : MapV P k kf w.drew b l := h
theorem MapV.drewN (h : MapV P k kf w b l) (n : Nat) : MapV P k kf (w.drewN n) b l := h
theorem MapV.alloc (h : MapV P k kf w b l) (o : Obj) : MapV P k kf (w.alloc o) b l := h.block (Below.heap_alloc w o b h.lt)
theorem MapV.far (h : MapV P k kf w b l) {a : Addr} (hne : b ≠ a.block) (v : Value) : MapV P k kf (w.setCell a v) b l := h.block (Below.heap_setCell w a v b hne)
theorem MapV.new (w : World) : MapV P k kf (w.alloc (.map #[] 0)) w.heap.size ([] : List (α × Value)) :=
 ⟨#[], 0, (MapKept.heap_alloc w _).1, rfl, by simp, by simp⟩
section
variable (K : Keyed P k) (ht : P.underlying t = some (.map k e)) (hkf : ∀ {x y : α}, kf x = kf y → x = y)
include K ht hkf
theorem keysV_of {es : Array MapEntry} (he : es.toList.map (fun e => (e.key, e.val)) = l.map (fun p => (kf p.1, p.2))) (hk : ∀ p ∈ l, ∃ kl, keyOf P k (kf p.1) = some kl) : ∀ e ∈ es.toList, ∃ kl, keyOf P k e.key = some kl := fun e0 h0 => by
 have h1 : (e0.key, e0.val) ∈ es.toList.map (fun e => (e.key, e.val)) := List.mem_map.2 ⟨e0, h0, rfl⟩
 rw [he] at h1
 obtain ⟨p, hp, h2⟩ := List.mem_map.1 h1
 have h3 : kf p.1 = e0.key := congrArg Prod.fst h2
 rw [← h3]
 exact hk p hp
theorem no_keyV {es : Array MapEntry} (he : es.toList.map (fun e => (e.key, e.val)) = l.map (fun p => (kf p.1, p.2))) {a : α} (h : ∀ x ∈ es.toList, x.key ≠ kf a) : ∀ p ∈ l, p.1 ≠ a := fun p hp hpa => by
 have h1 : (kf p.1, p.2) ∈ l.map (fun p => (kf p.1, p.2)) := List.mem_map.2 ⟨p, hp, rfl⟩
 rw [← he] at h1
 obtain ⟨x, hx, h2⟩ := List.mem_map.1 h1
 have h3 : x.key = kf p.1 := congrArg Prod.fst h2
 exact h x hx (by rw [h3, hpa])
theorem entryV {es : Array MapEntry} (he : es.toList.map (fun e => (e.key, e.val)) = l.map (fun p => (kf p.1, p.2))) {j : Nat} {e0 : MapEntry} {a : α} (h2 : es.toList[j]? = some e0) (h3 : e0.key = kf a) : ∃ v, l[j]? = some (a, v) ∧ e0.val = v := by
 have h1 : (es.toList.map (fun e => (e.key, e.val)))[j]? = some (e0.key, e0.val) := by rw [List.getElem?_map, h2]; rfl
 rw [he, List.getElem?_map] at h1
 cases hp : l[j]? with
 | none => rw [hp] at h1; cases h1
 | some p =>
  rw [hp] at h1
  simp only [Option.map_some, Option.some.injEq, Prod.mk.injEq] at h1
  obtain ⟨p1, p2⟩ := p
  have h4 : p1 = a := hkf (h1.1.trans h3)
  exact ⟨p2, by rw [h4], h1.2.symm⟩
theorem MapV.lookup (h : MapV P k kf w b l) {a : α} {v : Value} {kl : Lit} (hkey : keyOf P k (kf a) = some kl) (hmem : (a, v) ∈ l) : (Instr.lookup t (.map (some b)) (kf a) false).run P w = .ok v w := by
 obtain ⟨es, c, hb, he, h3, h4⟩ := h
 rcases K.find w hkey es.toList (keysV_of K ht hkf he h4) with ⟨g1, g2⟩ | ⟨j, e0, g1, g2, g3⟩
 ·exact absurd rfl (no_keyV K ht hkf he g2 _ hmem)
 ·obtain ⟨v', hv', hv⟩ := entryV K ht hkf he g2 g3
  obtain ⟨i, hi⟩ := List.getElem?_of_mem hmem
  obtain ⟨i1, i2⟩ := List.getElem?_eq_some_iff.1 hi
  obtain ⟨j1, j2⟩ := List.getElem?_eq_some_iff.1 hv'
  have h5 : (l.map (·.1))[i]'(by simpa using i1) = (l.map (·.1))[j]'(by simpa using j1) := by simp [i2, j2]
  obtain rfl := (List.getElem_inj h3).1 h5
  have h6 : v' = v := by
   have := hv'.symm.trans hi
   simpa using this
  simp [Instr.lookup, run_underlying ht, MapKept.run_getObj_map hb, K.check w _ hkey, g1, Result.andThen, hv, h6]
theorem MapV.update (h : MapV P k kf w b l) {a : α} {kl : Lit} (hkey : keyOf P k (kf a) = some kl) (hnew : ∀ p ∈ l, p.1 ≠ a) (v : Value) :
  ∃ w', (Instr.mapUpdate t (.map (some b)) (kf a) v).run P w = .ok () w' ∧ MapV P k kf w' b (l ++ [(a, v)]) ∧ Only b w w' := by
 obtain ⟨es, c, hb, he, h3, h4⟩ := h
 rcases K.find w hkey es.toList (keysV_of K ht hkf he h4) with ⟨g1, g2⟩ | ⟨j, e0, g1, g2, g3⟩
 ·refine ⟨setBlock w b (.map (es.push ⟨kf a, v, c⟩) (c + 1)), ?_, ⟨es.push ⟨kf a, v, c⟩, c + 1, heap_setBlock_same hb _, ?_, ?_, ?_⟩, only_set hb⟩
  ·simp [Instr.mapUpdate, run_underlying ht, MapKept.run_getObj_map hb, K.check w false hkey, g1, MapKept.run_setObj_map _ hb, Result.andThen, setBlock]
  ·simp [he]
  ·rw [List.map_append]
   refine List.nodup_append.2 ⟨h3, by simp, fun x hx y hy e1 => ?_⟩
   simp only [List.map_cons, List.map_nil, List.mem_singleton] at hy
   obtain ⟨p, hp, rfl⟩ := List.mem_map.1 hx
   exact hnew p hp (e1.trans hy)
  ·intro p hp
   rcases List.mem_append.1 hp with hp | hp
   ·exact h4 p hp
   ·simp only [List.mem_singleton] at hp; subst hp; exact ⟨kl, hkey⟩
 ·obtain ⟨v', hv', hv⟩ := entryV K ht hkf he g2 g3
  exact absurd rfl (hnew _ (List.mem_of_getElem? hv'))
theorem MapV.drop (h : MapV P k kf w b l) {a : α} {kl : Lit} (hkey : keyOf P k (kf a) = some kl) :
  ∃ w' l', (∀ ty, (Builtin.delete_ #[t, k] ty #[.map (some b), kf a]).run P w = .ok (.tuple #[]) w') ∧ MapV P k kf w' b l' ∧ (∀ q, q ∈ l' ↔ q ∈ l ∧ q.1 ≠ a) ∧ Only b w w' := by
 obtain ⟨es, c, hb, he, h3, h4⟩ := h
 rcases K.find w hkey es.toList (keysV_of K ht hkf he h4) with ⟨g1, g2⟩ | ⟨j, e0, g1, g2, g3⟩
 ·have hno := no_keyV K ht hkf he g2
  refine ⟨setBlock w b (.map es c), l, fun ty => ?_, ⟨es, c, heap_setBlock_same hb _, he, h3, h4⟩, fun q => ⟨fun hq => ⟨hq, hno q hq⟩, fun hq => hq.1⟩, only_set hb⟩
  simp [Builtin.delete_, run_underlying ht, MapKept.run_getObj_map hb, K.check w _ hkey, g1, MapKept.run_setObj_map _ hb, Result.andThen, setBlock]
 ·obtain ⟨v', hv', hv⟩ := entryV K ht hkf he g2 g3
  have hjl : j < es.toList.length := (List.getElem?_eq_some_iff.1 g2).1
  have hjs : j < es.size := by simpa using hjl
  have hsub : (es.eraseIdxIfInBounds j).toList = es.toList.eraseIdx j := by
   unfold Array.eraseIdxIfInBounds
   rw [dif_pos hjs]
   simp
  refine ⟨setBlock w b (.map (es.eraseIdxIfInBounds j) c), l.eraseIdx j, fun ty => ?_, ⟨es.eraseIdxIfInBounds j, c, heap_setBlock_same hb _, ?_, ?_, ?_⟩, fun q => ?_, only_set hb⟩
  ·simp [Builtin.delete_, run_underlying ht, MapKept.run_getObj_map hb, K.check w _ hkey, g1, MapKept.run_setObj_map _ hb, Result.andThen, setBlock]
  ·rw [hsub, mapErase, he, mapErase]
  ·exact h3.sublist ((List.eraseIdx_sublist l j).map _)
  ·exact fun p hp => h4 p ((List.eraseIdx_sublist l j).subset hp)
  ·obtain ⟨j1, j2⟩ := List.getElem?_eq_some_iff.1 hv'
   rw [List.mem_eraseIdx_iff_getElem?]
   constructor
   ·rintro ⟨i, hij, hi⟩
    refine ⟨List.mem_of_getElem? hi, fun hqa => hij ?_⟩
    obtain ⟨i1, i2⟩ := List.getElem?_eq_some_iff.1 hi
    have h5 : (l.map (·.1))[i]'(by simpa using i1) = (l.map (·.1))[j]'(by simpa using j1) := by simp [i2, j2, hqa]
    exact (List.getElem_inj h3).1 h5
   ·rintro ⟨hq, hqa⟩
    obtain ⟨i, hi⟩ := List.getElem?_of_mem hq
    refine ⟨i, fun hij => hqa ?_, hi⟩
    subst hij
    rw [hv'] at hi
    cases hi
    rfl
end
end
end Gal
end
section
set_option linter.unusedVariables false
set_option linter.unusedSimpArgs false
set_option linter.unusedSectionVars false
namespace Go.Proofs.Ytchngeagnlngaaa
open Go.RowKit Gal Go.Maps
def keyV (k : Nat) : Value := .int .i64 k
theorem keyV_inj {x y : Nat} (h : keyV x = keyV y) : x = y := by
 unfold keyV at h
 injection h with _ h
 omega
theorem int_keys : Keyed Try.prog 3 := int_keyed Try.underlying3
theorem keyV_of {k : Nat} (h : k ≤ 9223372036854775807) : keyOf Try.prog 3 (keyV k) = some (.int .i64 k) := keyOf_int_mk Try.underlying3 (by
 have e1 : IntKind.i64.min = -9223372036854775808 := rfl
 have e2 : IntKind.i64.max = 9223372036854775807 := rfl
 simp only [Lit.wf, Bool.and_eq_true, decide_eq_true_eq]
 omega)
structure ShelfAt (w : World) (sb mb : Nat) (now most : Int) (l : List (Nat × Value)) : Prop where
 box : Box w sb [.map (some mb), .int .i64 now, .int .i64 most] 89
 map : MapV Try.prog 3 keyV w mb l
variable {w : World} {sb mb : Nat} {now most : Int} {l : List (Nat × Value)}
theorem ShelfAt.ne (h : ShelfAt w sb mb now most l) : sb ≠ mb := fun e => by
 obtain ⟨es, c, hb, _⟩ := h.map
 have h1 := h.box
 unfold Box at h1
 rw [e, hb] at h1
 cases h1
theorem ShelfAt.keep {w' : World} (h : ShelfAt w sb mb now most l) (hb : Below w.heap.size w w') : ShelfAt w' sb mb now most l := ⟨h.box.keep hb, h.map.keep hb⟩
theorem ShelfAt.drewN (h : ShelfAt w sb mb now most l) (n : Nat) : ShelfAt (w.drewN n) sb mb now most l := ⟨h.box.drewN n, h.map.drewN n⟩
theorem ShelfAt.drew (h : ShelfAt w sb mb now most l) : ShelfAt w.drew sb mb now most l := ⟨h.box.drew, h.map.drew⟩
theorem ShelfAt.alloc (h : ShelfAt w sb mb now most l) (o : Obj) : ShelfAt (w.alloc o) sb mb now most l := ⟨h.box.alloc o, h.map.alloc o⟩
theorem ShelfAt.far (h : ShelfAt w sb mb now most l) {a : Addr} (h1 : sb ≠ a.block) (h2 : mb ≠ a.block) (v : Value) : ShelfAt (w.setCell a v) sb mb now most l := ⟨h.box.far h1 v, h.map.far h2 v⟩
def onShelf (sb mb : Nat) (b : Nat) : Prop := b = sb ∨ b = mb
set_option maxRecDepth 100000 in
set_option maxHeartbeats 1000000 in
theorem shelfPut_new (h : ShelfAt w sb mb now most l) (k : Nat) (R C : Int) (a : Option Addr) (n c : Nat) (hk : k ≤ 12) (hnew : ∀ p ∈ l, p.1 ≠ k) (hn : 0 ≤ now ∧ now ≤ 1000000) (hm : 0 ≤ most ∧ most ≤ 1000000) :
  Calls Try.prog 33 #[.pointer (some ⟨sb, 0, none⟩), .int .i64 k, .agg #[.int .i64 R, .int .i64 C, .slice a n c]] w fun e w' => e = .returned (.tuple #[]) ∧
   ShelfAt w' sb mb (now + 1) (max most (now + 1)) (l ++ [(k, .agg #[.int .i64 R, .int .i64 C, .slice a n c])]) ∧ Far (onShelf sb mb) w w' := by
 obtain ⟨hn0, hn1⟩ := hn
 obtain ⟨hm0, hm1⟩ := hm
 have hne := h.ne
 have hsl := h.box.lt
 have hml := h.map.lt
 have hA := (h.alloc (.cells #[.int .i64 R, .int .i64 C, .slice a n c] 28)).drew
 have P := (Box.new w [.int .i64 R, .int .i64 C, .slice a n c] 28).drew
 have p0 := P.cell 0
 have p1 := P.cell 1
 have p2 := P.cell 2
 have c0 := hA.box.cell 0
 obtain ⟨w2, hup, hm2, ho2⟩ := hA.map.update int_keys Try.underlying87 keyV_inj (keyV_of (k := k) (by omega)) hnew (.agg #[.int .i64 R, .int .i64 C, .slice a n c])
 unfold keyV at hup
 have b2 := Box.only hA.box ho2 hne
 have c1 := b2.cell 1
 have f1 := b2.thawed 1
 have b3 := (b2.set 1 (.int .i64 (now + 1))).drew
 have d1 := b3.cell 1
 have d2 := b3.cell 2
 have f2 := b3.thawed 2
 have b4 := b3.set 2 (.int .i64 (max most (now + 1)))
 have HB : Hid (Box (((w2.setCell ⟨sb, 1, none⟩ (.int .i64 (now + 1))).setCell ⟨sb, 2, none⟩ (.int .i64 (max most (now + 1)))).drew) sb [.map (some mb), .int .i64 (now + 1), .int .i64 (max most (now + 1))] 89) := Lib.hid b4
 have HM : Hid (MapV Try.prog 3 keyV (((w2.setCell ⟨sb, 1, none⟩ (.int .i64 (now + 1))).setCell ⟨sb, 2, none⟩ (.int .i64 (max most (now + 1)))).drew) mb (l ++ [(k, .agg #[.int .i64 R, .int .i64 C, .slice a n c])])) :=
  Lib.hid ((hm2.far (by dsimp only; omega) _).far (by dsimp only; omega) _).drew
 have HF : Hid (Far (onShelf sb mb) w (((w2.setCell ⟨sb, 1, none⟩ (.int .i64 (now + 1))).setCell ⟨sb, 2, none⟩ (.int .i64 (max most (now + 1)))).drew)) :=
  Lib.hid ((((((Far.refl (onShelf sb mb) w).al _).drew).grown ho2.1 (fun k hk _ => by cases hk; exact Or.inr rfl)).st (fun _ => Or.inl rfl) _).st (fun _ => Or.inl rfl) _).drew
 clear hA P hm2 ho2 b2 b3 b4 hnew
 by_cases hmx : most < now + 1
 ·have hmm : max most (now + 1) = now + 1 := by omega
  rw [hmm] at HB HM HF ⊢
  clear hmm
  go_enter Try.func33, Try.ntmps33
  go_wp2
  go_region
  all_goals
   go_wp2
   go_region
  all_goals
   go_wp2
   go_end0
   exact ⟨rfl, ⟨HB.out, HM.out⟩, HF.out⟩
 ·have hmm : max most (now + 1) = most := by omega
  rw [hmm] at HB HM HF ⊢
  clear hmm
  go_enter Try.func33, Try.ntmps33
  go_wp2
  go_region
  all_goals
   go_wp2
   go_region
  all_goals
   go_wp2
   go_end0
   exact ⟨rfl, ⟨HB.out, HM.out⟩, HF.out⟩
set_option maxRecDepth 100000 in
set_option maxHeartbeats 1000000 in
theorem shelfDrop_any (h : ShelfAt w sb mb now most l) (k : Nat) (hk : k ≤ 12) (hn : 0 ≤ now ∧ now ≤ 1000000) :
  Calls Try.prog 36 #[.pointer (some ⟨sb, 0, none⟩), .int .i64 k] w fun e w' => e = .returned (.tuple #[]) ∧
   (∃ l', ShelfAt w' sb mb (now - 1) most l' ∧ ∀ q, q ∈ l' ↔ q ∈ l ∧ q.1 ≠ k) ∧ Far (onShelf sb mb) w w' := by
 obtain ⟨hn0, hn1⟩ := hn
 have hne := h.ne
 have c0 := h.box.cell 0
 obtain ⟨w2, l', hup, hm2, hl', ho2⟩ := h.map.drop int_keys Try.underlying87 keyV_inj (keyV_of (k := k) (by omega))
 unfold keyV at hup
 have b2 := Box.only h.box ho2 hne
 have c1 := b2.cell 1
 have f1 := b2.thawed 1
 have b3 := b2.set 1 (.int .i64 (now - 1))
 have HB : Hid (Box (w2.setCell ⟨sb, 1, none⟩ (.int .i64 (now - 1))) sb [.map (some mb), .int .i64 (now - 1), .int .i64 most] 89) := Lib.hid b3
 have HM : Hid (MapV Try.prog 3 keyV (w2.setCell ⟨sb, 1, none⟩ (.int .i64 (now - 1))) mb l') := Lib.hid (hm2.far (by dsimp only; omega) _)
 have HF : Hid (Far (onShelf sb mb) w (w2.setCell ⟨sb, 1, none⟩ (.int .i64 (now - 1)))) := Lib.hid (((Far.refl (onShelf sb mb) w).grown ho2.1 (fun k hk _ => by cases hk; exact Or.inr rfl)).st (fun _ => Or.inl rfl) _)
 have HL := Lib.hid hl'
 clear hm2 ho2 b2 b3 hl'
 go_enter Try.func36, Try.ntmps36
 go_wp2
 go_end0
 exact ⟨rfl, ⟨l', ⟨HB.out, HM.out⟩, HL.out⟩, HF.out⟩
end Go.Proofs.Ytchngeagnlngaaa
end
section
set_option linter.unusedVariables false
set_option linter.unusedSimpArgs false
namespace Gal
open Go Go.RowKit
structure Cells7 (w : World) (b i : Nat) (v0 v1 v2 v3 v4 v5 v6 : Value) : Prop where
 c0 : w.cell? ⟨b, i, none⟩ = some v0
 c1 : w.cell? ⟨b, i + 1, none⟩ = some v1
 c2 : w.cell? ⟨b, i + 2, none⟩ = some v2
 c3 : w.cell? ⟨b, i + 3, none⟩ = some v3
 c4 : w.cell? ⟨b, i + 4, none⟩ = some v4
 c5 : w.cell? ⟨b, i + 5, none⟩ = some v5
 c6 : w.cell? ⟨b, i + 6, none⟩ = some v6
section
variable {w w' : World} {b i : Nat} {v0 v1 v2 v3 v4 v5 v6 : Value}
theorem Cells7.keep (h : Cells7 w b i v0 v1 v2 v3 v4 v5 v6) (hb : Below w.heap.size w w') : Cells7 w' b i v0 v1 v2 v3 v4 v5 v6 := ⟨cell_keep' hb h.c0, cell_keep' hb h.c1, cell_keep' hb h.c2, cell_keep' hb h.c3, cell_keep' hb h.c4, cell_keep' hb h.c5, cell_keep' hb h.c6⟩
theorem Cells7.alloc (h : Cells7 w b i v0 v1 v2 v3 v4 v5 v6) (o : Obj) : Cells7 (w.alloc o) b i v0 v1 v2 v3 v4 v5 v6 := h.keep ((Below.refl w.heap.size w).alloc (Nat.le_refl _) o)
theorem Cells7.drewN (h : Cells7 w b i v0 v1 v2 v3 v4 v5 v6) (n : Nat) : Cells7 (w.drewN n) b i v0 v1 v2 v3 v4 v5 v6 := ⟨h.c0, h.c1, h.c2, h.c3, h.c4, h.c5, h.c6⟩
theorem Cells7.drew (h : Cells7 w b i v0 v1 v2 v3 v4 v5 v6) : Cells7 w.drew b i v0 v1 v2 v3 v4 v5 v6 := ⟨h.c0, h.c1, h.c2, h.c3, h.c4, h.c5, h.c6⟩
theorem Cells7.far (h : Cells7 w b i v0 v1 v2 v3 v4 v5 v6) {a : Addr} (hne : b ≠ a.block) (v : Value) : Cells7 (w.setCell a v) b i v0 v1 v2 v3 v4 v5 v6 :=
 ⟨(World.cell?_of_block (a := ⟨b, i, none⟩) (Below.heap_setCell w a v b hne)).trans h.c0, (World.cell?_of_block (a := ⟨b, i + 1, none⟩) (Below.heap_setCell w a v b hne)).trans h.c1, (World.cell?_of_block (a := ⟨b, i + 2, none⟩) (Below.heap_setCell w a v b hne)).trans h.c2, (World.cell?_of_block (a := ⟨b, i + 3, none⟩) (Below.heap_setCell w a v b hne)).trans h.c3, (World.cell?_of_block (a := ⟨b, i + 4, none⟩) (Below.heap_setCell w a v b hne)).trans h.c4, (World.cell?_of_block (a := ⟨b, i + 5, none⟩) (Below.heap_setCell w a v b hne)).trans h.c5, (World.cell?_of_block (a := ⟨b, i + 6, none⟩) (Below.heap_setCell w a v b hne)).trans h.c6⟩
end
end Gal
end
