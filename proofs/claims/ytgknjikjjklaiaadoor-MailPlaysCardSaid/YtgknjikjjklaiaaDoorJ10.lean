/- Texts joined: QRow. -/
import Derived.Test.YtgknjikjjklaiaaDoorJ03
import Derived.Deep.AppendSrc
section
set_option linter.unusedVariables false
set_option linter.unusedSimpArgs false
set_option linter.unusedSectionVars false
namespace Gal
open Go Go.RowKit
def World.qrow (w : World) (base : Nat) (E : TypeId) (size : Nat) (v : Value) (n : Nat) (ds : List Value) : Prop :=
 ds.length = n * size ∧ ((∃ a, v = .slice a 0 0 ∧ n = 0) ∨ ∃ g off cap cur, v = .slice (some ⟨g, off, none⟩) n cap ∧ base ≤ g ∧ w.heap[g]? = some (.cells cur E) ∧ n ≤ cap ∧ 0 < cap ∧ cap ≤ maxLen ∧ cur.size = off + cap * size ∧ (cur.toList.drop off).take (n * size) = ds)
def QRow {α : Type} (f : Form α) (E : TypeId) (w : World) (base : Nat) (F : Nat → Prop) (v : Value) (xs : List α) : Prop :=
 ∃ ds, World.qrow w base E f.size v xs.length ds ∧ Flat f w F ds xs
def qBlock : Value → Option Nat
 | .slice (some a) _ cap => if cap = 0 then none else some a.block
 | _ => none
section
variable {α : Type} {f : Form α} {E : TypeId} {w w' : World} {base : Nat} {F : Nat → Prop} {v : Value} {xs : List α}
theorem QRow.nil : QRow f E w base F (.slice none 0 0) ([] : List α) := ⟨[], ⟨by simp, Or.inl ⟨none, rfl, rfl⟩⟩, rfl⟩
theorem QRow.slice (h : QRow f E w base F v xs) : ∃ a cap, v = .slice a xs.length cap := by
 obtain ⟨ds, ⟨_, h⟩, _⟩ := h
 rcases h with ⟨a, h1, h2⟩ | ⟨g, off, cap, cur, h1, _⟩
 ·exact ⟨a, 0, by rw [h2]; exact h1⟩
 ·exact ⟨_, cap, h1⟩
theorem QRow.kept (h : QRow f E w base F v xs) (hv : ∀ b, base ≤ b → b < w.heap.size → qBlock v = some b → w'.heap[b]? = w.heap[b]?) (hF : ∀ b, F b → b < w.heap.size → w'.heap[b]? = w.heap[b]?) : QRow f E w' base F v xs := by
 obtain ⟨ds, ⟨h1, h2⟩, k⟩ := h
 refine ⟨ds, ⟨h1, ?_⟩, Flat.kept hF k⟩
 rcases h2 with h2 | ⟨g, off, cap, cur, e, hb, hg, r1, r2, r⟩
 ·exact Or.inl h2
 ·exact Or.inr ⟨g, off, cap, cur, e, hb, by rw [hv g hb (heap_lt hg) (by rw [e]; simp [qBlock]; omega)]; exact hg, r1, r2, r⟩
theorem QRow.keep (h : QRow f E w base F v xs) (hb : Below w.heap.size w w') : QRow f E w' base F v xs := h.kept (fun b _ hl _ => hb.block b hl) (fun b _ hl => hb.block b hl)
theorem QRow.farS {S : Nat → Prop} (h : QRow f E w base F v xs) (hf : Far S w w') (hv : ∀ b, qBlock v = some b → ¬ S b) (hF : ∀ b, F b → ¬ S b) : QRow f E w' base F v xs :=
 h.kept (fun b _ hl e => hf.block b hl (hv b e)) (fun b hb hl => hf.block b hl (hF b hb))
theorem QRow.lt (h : QRow f E w base F v xs) {b : Nat} (hb : qBlock v = some b) : base ≤ b ∧ b < w.heap.size := by
 obtain ⟨ds, ⟨_, h2⟩, _⟩ := h
 rcases h2 with ⟨a, rfl, _⟩ | ⟨g, off, cap, cur, rfl, h3, hg, _⟩
 ·cases a <;> simp [qBlock] at hb
 ·simp [qBlock] at hb
  obtain ⟨_, rfl⟩ := hb
  exact ⟨h3, heap_lt hg⟩
theorem QRow.isCells (h : QRow f E w base F v xs) {b : Nat} (hb : qBlock v = some b) : ∃ cur, w.heap[b]? = some (.cells cur E) := by
 obtain ⟨ds, ⟨_, h2⟩, _⟩ := h
 rcases h2 with ⟨a, rfl, _⟩ | ⟨g, off, cap, cur, rfl, h3, hg, _⟩
 ·cases a <;> simp [qBlock] at hb
 ·simp [qBlock] at hb
  obtain ⟨_, rfl⟩ := hb
  exact ⟨cur, hg⟩
theorem QRow.row {G : Nat → Prop} (h : QRow f E w base F v xs) (hF : ∀ b, F b → b < w.heap.size → G b) (hG : ∀ b, base ≤ b → G b) : ∃ a cap b off, v = .slice a xs.length cap ∧ RowAt f w G a xs.length cap b off xs := by
 obtain ⟨cs, ⟨hl, h⟩, k⟩ := h
 rcases h with ⟨a, h1, h0⟩ | ⟨g, off, cap, cur, rfl, hb, hg, hn, h0, hm, hs, ht⟩
 ·obtain rfl := List.eq_nil_of_length_eq_zero h0
  exact ⟨a, 0, 0, 0, h1, rfl, Nat.le_refl _, Nat.zero_le _, fun h => absurd h (Nat.lt_irrefl _), fun h => absurd h (Nat.lt_irrefl _), fun h => absurd h (Nat.lt_irrefl _), fun i x hx => by simp at hx⟩
 ·refine ⟨_, cap, g, off, rfl, rfl, hn, hm, fun _ => rfl, fun _ => heap_lt hg, fun _ => hG _ hb, fun i x hx => ?_⟩
  obtain ⟨c, h1, h2⟩ := k.at i x hx
  have hi : i < xs.length := by
   rcases Nat.lt_or_ge i xs.length with h1 | h1
   ·exact h1
   ·rw [List.getElem?_eq_none h1] at hx; cases hx
  refine ⟨c, f.wide hF h1, fun j hj => ?_⟩
  have hij : i * f.size + j < xs.length * f.size := by
   have := Nat.mul_le_mul_right f.size (show i + 1 ≤ xs.length by omega)
   rw [Nat.succ_mul] at this
   omega
  rw [show off + i * f.size + j = off + (i * f.size + j) by omega, cell_of_row w g _ cur E _ hg, ← h2 j hj, ← ht, List.getElem?_take_of_lt hij, List.getElem?_drop]
  simp
theorem QRow.tail {a : Option Addr} {b off n cap s : Nat} {x : α} (h : QRow f E w base F (.slice (some ⟨b, off, none⟩) n cap) (x :: xs)) (hs : f.size = s) : QRow f E w base F (.slice (if cap = 1 then some ⟨b, off, none⟩ else some ⟨b, off + s, none⟩) (n - 1) (cap - 1)) xs := by
 subst hs
 obtain ⟨cs, ⟨hl, h⟩, k⟩ := h
 obtain ⟨c, d, rfl, hc, hd⟩ := k
 have hcl := f.len hc
 have hdl := hd.len
 rcases h with ⟨a, h1, h0⟩ | ⟨g, off', cap', cur, e, hb, hg, hn, h0, hm, hsz, ht⟩
 ·simp at h0
 ·simp only [Value.slice.injEq, Option.some.injEq, Addr.mk.injEq] at e
  obtain ⟨⟨rfl, rfl, _⟩, rfl, rfl⟩ := e
  refine ⟨d, ⟨hdl, ?_⟩, hd⟩
  simp only [List.length_cons] at hn ht hl ⊢
  by_cases h1 : cap = 1
  ·rw [if_pos h1]
   exact Or.inl ⟨_, by rw [show xs.length + 1 - 1 = 0 by omega, show cap - 1 = 0 by omega], by omega⟩
  ·rw [if_neg h1]
   refine Or.inr ⟨b, off + f.size, cap - 1, cur, by simp, hb, hg, by omega, by omega, by omega, ?_, ?_⟩
   ·rw [hsz]
    have : cap * f.size = (cap - 1) * f.size + f.size := by rw [← Nat.succ_mul]; congr 1; omega
    omega
   ·have h3 : (cur.toList.drop (off + f.size)) = (cur.toList.drop off).drop f.size := by rw [List.drop_drop]
    have h4 : ((cur.toList.drop off).take ((xs.length + 1) * f.size)).drop f.size = d := by rw [ht, ← hcl, List.drop_left]
    rw [h3, ← h4, List.drop_take, Nat.succ_mul, Nat.add_sub_cancel]
end
theorem Box.setCells {b : Nat} {t : TypeId} : ∀ (vs : List Value) (o : Nat) (w : World) (cs : List Value), Box w b cs t → o + vs.length ≤ cs.length → Box (w.setCells b o vs) b (cs.take o ++ vs ++ cs.drop (o + vs.length)) t
 | [], o, w, cs, h, _ => by
  have : cs.take o ++ [] ++ cs.drop (o + 0) = cs := by simp
  rw [List.length_nil, this]
  exact h
 | v :: r, o, w, cs, h, hl => by
  rw [List.length_cons] at hl
  have ih := Box.setCells r (o + 1) (w.setCell ⟨b, o, none⟩ v) (cs.set o v) (h.set o v) (by rw [List.length_set]; omega)
  have e : (cs.set o v).take (o + 1) ++ r ++ (cs.set o v).drop (o + 1 + r.length) = cs.take o ++ (v :: r) ++ cs.drop (o + (v :: r).length) := by
   have h1 : (cs.set o v).take (o + 1) = cs.take o ++ [v] := by
    rw [List.set_eq_take_append_cons_drop, if_pos (by omega), List.take_append]
    have h2 : (cs.take o).length = o := by rw [List.length_take]; omega
    rw [h2, List.take_of_length_le (by omega), show o + 1 - o = 1 by omega]
    rfl
   have h3 : (cs.set o v).drop (o + 1 + r.length) = cs.drop (o + (r.length + 1)) := by
    rw [List.drop_set_of_lt (by omega), show o + 1 + r.length = o + (r.length + 1) by omega]
   rw [h1, h3, List.length_cons]
   simp
  rw [← e]
  exact ih
theorem setCells_grown (b : Nat) : ∀ (vs : List Value) (o : Nat) (w : World), w.grownBy (w.setCells b o vs) (some b)
 | [], _, w => ⟨rfl, rfl, rfl, Nat.le_refl _, fun _ _ _ => rfl⟩
 | v :: r, o, w => by
  have ih := setCells_grown b r (o + 1) (w.setCell ⟨b, o, none⟩ v)
  exact ⟨ih.os, ih.tape, ih.output, by have := ih.size; simpa [World.setCell, World.setCells] using this, fun k hk hne => (ih.block k (by simpa [World.setCell] using hk) hne).trans (Below.heap_setCell w ⟨b, o, none⟩ v k (fun e => hne (by rw [e])))⟩
section
variable {P : Program} {w : World}
theorem wp_qpush {α : Type} {o : Oper} {a : Act} {K : Act → World → Prop} {Q : Exit → Act → World → Prop} (s x : Operand) (t : TypeId)
  (ho : o.op = .call { callee := .builtin .append, args := #[s, x], argTypes := #[t, t] })
  (f : Form α) (base : Nat) (e : TypeId) (i : TypeInfo) (z : Value) (bytes : Nat) (ht : P.underlying t = some (.slice e)) (hi : P.info? e = some i) (hz : i.zero = some z)
  (hsize : i.size = f.size) (hby : i.bytes = bytes) (hzs : z.cells.size = f.size) (hsz : 0 < f.size)
  (v : Value) (xs : List α) (hs : a.eval s = v) (hown : QRow f e w base (fun b => b < base) v xs)
  (b c : Nat) (cs : List Value) (te : TypeId) (y : α) (hx : a.eval x = .slice (some ⟨b, 0, none⟩) 1 c) (hbox : Box w b cs te) (hr : f.reads w (fun b => b < base) cs y)
  (hbytes : (xs.length + 1) * bytes ≤ 140737488355328) (hlen : xs.length + 1 ≤ maxLen) (hbase : base ≤ w.heap.size)
  (h : ∀ v' w', QRow f e w' base (fun b => b < base) v' (xs ++ [y]) → w.grownBy w' (qBlock v) → (∀ g, qBlock v' = some g → qBlock v = some g ∨ w.heap.size ≤ g) → K (a.put o.dst v') w') : o.wp P a w K Q := by
 obtain ⟨ds, ⟨hl, hq⟩, hfl⟩ := hown
 have hcl := f.len hr
 have hsrc : Src P i.size t (.slice (some ⟨b, 0, none⟩) 1 c) 1 cs w := Src.ofSlice w ht ⟨b, 0, none⟩ 1 c cs (by rw [hcl, hsize, Nat.one_mul]) (fun j u hu => World.news_of_block hbox j u (by simpa using hu)) (f.one hr)
 have key : ∃ v' w', (Builtin.append_ #[t, t] o.type #[v, .slice (some ⟨b, 0, none⟩) 1 c]).run P w = .ok v' w' ∧ QRow f e w' base (fun b => b < base) v' (xs ++ [y]) ∧ w.grownBy w' (qBlock v) ∧ (∀ g, qBlock v' = some g → qBlock v = some g ∨ w.heap.size ≤ g) := by
  have grow : ∀ (a0 : Option Addr) (cap : Nat), cap < xs.length + 1 → v = .slice a0 xs.length cap → (Builtin.firstCells i.size xs.length (.slice a0 xs.length cap)).run P w.drew = .ok ds.toArray w.drew →
    ∃ v' w', (Builtin.append_ #[t, t] o.type #[v, .slice (some ⟨b, 0, none⟩) 1 c]).run P w = .ok v' w' ∧ QRow f e w' base (fun b => b < base) v' (xs ++ [y]) ∧ w.grownBy w' (qBlock v) ∧ (∀ g, qBlock v' = some g → qBlock v = some g ∨ w.heap.size ≤ g) := by
   intro a0 cap hc hv hold
   have hmx : xs.length + 1 ≤ maxLen := hlen
   have hra := run_append_grow_src (P := P) (w := w) t t o.type e i z ht hi hz a0 xs.length cap ds hold (.slice (some ⟨b, 0, none⟩) 1 c) 1 cs hsrc hc (by unfold maxLen at hmx; omega) (by
    have h1 := nextslicecap_le hc
    have h2 := Nat.mul_le_mul_right i.bytes h1
    rw [hby] at h2 ⊢
    rw [Nat.mul_assoc] at h2
    omega)
   rw [← hv] at hra
   have hge := grownCap_ge w (xs.length + 1) cap e
   refine ⟨_, _, hra, ⟨ds ++ cs, ⟨?_, Or.inr ⟨w.heap.size, 0, grownCap w (xs.length + 1) cap e, _, by rw [List.length_append]; rfl, hbase, heap_alloc_new w.drew _, by rw [List.length_append]; exact hge, by omega, grownCap_le_maxLen w (xs.length + 1) cap e hmx, ?_, ?_⟩⟩, ?_⟩, ⟨rfl, rfl, rfl, by simp, fun k hk _ => Below.heap_alloc w.drew _ k hk⟩, fun g hg => Or.inr (by simp only [qBlock] at hg; split at hg <;> simp at hg; omega)⟩
   ·rw [List.length_append, hl, hcl, List.length_append, List.length_singleton, Nat.add_mul, Nat.one_mul]
   ·simp only [Array.size_append, List.size_toArray, size_zeroCells, hzs, List.length_append, hl, hcl]
    rw [Nat.zero_add, show xs.length * f.size + f.size = (xs.length + 1) * f.size by rw [Nat.succ_mul], ← Nat.add_mul]
    congr 1
    omega
   ·have hl2 : (xs ++ [y]).length * f.size = (ds ++ cs).length := by rw [List.length_append, List.length_append, hl, hcl, List.length_singleton, Nat.add_mul, Nat.one_mul]
    rw [hl2, List.drop_zero]
    simp only [Array.toList_append]
    exact List.take_left
   ·exact Flat.kept (w := w) (fun b' hb' hl' => Below.heap_alloc w.drew _ b' hl') (hfl.append (Flat.single hr))
  rcases hq with ⟨a0, hv, h0⟩ | ⟨g, off, cap, cur, hv, hbg, hg, hn, hcp, hm, hcs, htk⟩
  ·obtain rfl : xs = [] := List.eq_nil_of_length_eq_zero h0
   obtain rfl : ds = [] := List.eq_nil_of_length_eq_zero (by simpa using hl)
   refine grow a0 0 (by simp) hv ?_
   cases a0 with
   | none => exact run_firstCells_none _ _ _ _ _
   | some A => exact run_firstCells_some _ _ _ A _ _ [] (by simp) (fun j u hu => by simp at hu)
  ·by_cases hroom : xs.length + 1 ≤ cap
   ·have hk : xs.length * f.size + f.size ≤ cap * f.size := by rw [← Nat.succ_mul]; exact Nat.mul_le_mul_right _ hroom
    have hB : Box w g cur.toList e := by unfold Box; simpa using hg
    have hsz' : off + xs.length * f.size + cs.length ≤ cur.toList.length := by rw [hcl]; simp; omega
    have hr' := run_append_room_src (P := P) (w := w) t t o.type e i ht hi g off xs.length cap (.slice (some ⟨b, 0, none⟩) 1 c) 1 cs hsrc hroom
     (fun j hj => by rw [hsize, hB.cell, List.getElem?_eq_getElem (by omega)]; rfl) (fun j hj => hB.thawed _)
    rw [← hv, hsize] at hr'
    refine ⟨_, _, hr', ⟨ds ++ cs, ⟨?_, Or.inr ⟨g, off, cap, _, by rw [List.length_append]; rfl, hbg, Box.setCells cs (off + xs.length * f.size) w cur.toList hB hsz', by rw [List.length_append]; exact hroom, hcp, hm, ?_, ?_⟩⟩, ?_⟩, ?_, fun g' hg' => Or.inl (by rw [hv]; simpa [qBlock] using hg')⟩
    ·rw [List.length_append, hl, hcl, List.length_append, List.length_singleton, Nat.add_mul, Nat.one_mul]
    ·simp at hsz' ⊢
     omega
    ·have h1 : (cur.toList.take (off + xs.length * f.size)).drop off = ds := by rw [List.drop_take, Nat.add_sub_cancel_left]; exact htk
     have h2 : (cur.toList.take (off + xs.length * f.size)).length = off + xs.length * f.size := by rw [List.length_take]; omega
     rw [List.append_assoc, List.drop_append_of_le_length (by omega), h1, ← List.append_assoc]
     have hl2 : (xs ++ [y]).length * f.size = (ds ++ cs).length := by rw [List.length_append, List.length_append, hl, hcl, List.length_singleton, Nat.add_mul, Nat.one_mul]
     rw [hl2]
     exact List.take_left
    ·exact (hfl.append (Flat.single hr)).kept fun b' hb' hl' => (setCells_grown g cs _ w).block b' hl' (fun e' => by cases e'; omega)
    ·rw [hv]
     simp only [qBlock]
     rw [if_neg (by omega)]
     exact setCells_grown g cs _ w
   ·refine grow _ cap (by omega) hv ?_
    have hB : Box w g cur.toList e := by unfold Box; simpa using hg
    refine run_firstCells_some _ _ _ ⟨g, off, none⟩ _ _ ds (by rw [hl, hsize]) (fun j u hu => ?_)
    have ha : (⟨g, off, none⟩ : Addr).add j = ⟨g, off + j, none⟩ := by
     unfold Addr.add
     split
     ·rename_i h0; rw [h0, Nat.add_zero]
     ·rfl
    rw [ha]
    show w.cell? ⟨g, off + j, none⟩ = some u
    rw [hB.cell, ← hu, ← htk, List.getElem?_take_of_lt (by
     have := (List.getElem?_eq_some_iff.1 hu).1
     rw [hl] at this
     exact this), List.getElem?_drop]
 obtain ⟨v', w', hrun, h1, h2, h3⟩ := key
 unfold Oper.wp
 simp [execOp, ho, resolve, invoke, builtin, hs, hx, hrun, Result.andThen]
 exact h v' w' h1 h2 h3
theorem wpList_qpush {α : Type} {ops : Array Oper} {rest : List Oper} {o : Oper} {a : Act} {Q : Exit → Act → World → Prop} (hgd : o.guard = none) (s x : Operand) (t : TypeId)
  (ho : o.op = .call { callee := .builtin .append, args := #[s, x], argTypes := #[t, t] })
  (f : Form α) (base : Nat) (e : TypeId) (i : TypeInfo) (z : Value) (bytes : Nat) (ht : P.underlying t = some (.slice e)) (hi : P.info? e = some i) (hz : i.zero = some z)
  (hsize : i.size = f.size) (hby : i.bytes = bytes) (hzs : z.cells.size = f.size) (hsz : 0 < f.size)
  (v : Value) (xs : List α) (hs : a.eval s = v) (hown : QRow f e w base (fun b => b < base) v xs)
  (b c : Nat) (cs : List Value) (te : TypeId) (y : α) (hx : a.eval x = .slice (some ⟨b, 0, none⟩) 1 c) (hbox : Box w b cs te) (hr : f.reads w (fun b => b < base) cs y)
  (hbytes : (xs.length + 1) * bytes ≤ 140737488355328) (hlen : xs.length + 1 ≤ maxLen) (hbase : base ≤ w.heap.size)
  (h : ∀ v' w', QRow f e w' base (fun b => b < base) v' (xs ++ [y]) → w.grownBy w' (qBlock v) → (∀ g, qBlock v' = some g → qBlock v = some g ∨ w.heap.size ≤ g) → wpList P ops Q rest (a.put o.dst v') w') : wpList P ops Q (o :: rest) a w :=
 wpList_plain hgd fun _ hK => wp_qpush s x t ho f base e i z bytes ht hi hz hsize hby hzs hsz v xs hs hown b c cs te y hx hbox hr hbytes hlen hbase fun v' w' h1 h2 h3 => hK _ _ (h v' w' h1 h2 h3)
end
end Gal
end
