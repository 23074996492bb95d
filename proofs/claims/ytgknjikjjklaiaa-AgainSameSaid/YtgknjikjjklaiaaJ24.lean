/- Texts joined: Part. -/
import Derived.Test.YtgknjikjjklaiaaJ04
section
set_option linter.unusedVariables false
set_option linter.unusedSimpArgs false
namespace Gal
open Go Go.RowKit
def PartOf {α : Type} (f : Form α) (w : World) (F : Nat → Prop) (cs : List Value) (xs : List α) : Prop :=
 ∀ i x, xs[i]? = some x → ∃ c, f.reads w F c x ∧ ∀ j, j < f.size → cs[i * f.size + j]? = c[j]?
section
variable {α : Type} {f : Form α} {w w' : World} {F G : Nat → Prop} {cs : List Value} {xs : List α}
theorem PartOf.nil : PartOf f w F cs [] := fun i x h => by simp at h
theorem PartOf.kept (h : PartOf f w F cs xs) (hF : ∀ b, F b → b < w.heap.size → w'.heap[b]? = w.heap[b]?) : PartOf f w' F cs xs := fun i x hx => by
 obtain ⟨c, hr, hc⟩ := h i x hx
 exact ⟨c, f.keep hF hr, hc⟩
theorem PartOf.keep (h : PartOf f w F cs xs) (hb : Below w.heap.size w w') : PartOf f w' F cs xs := h.kept fun b _ hl => hb.block b hl
theorem PartOf.far {S : Nat → Prop} (h : PartOf f w F cs xs) (hf : Far S w w') (hs : ∀ b, F b → ¬ S b) : PartOf f w' F cs xs := h.kept fun b hb hl => hf.block b hl (hs b hb)
theorem PartOf.set (h : PartOf f w F cs xs) {i : Nat} (hi : xs.length * f.size ≤ i) (v : Value) : PartOf f w F (cs.set i v) xs := fun t x hx => by
 obtain ⟨c, hr, hc⟩ := h t x hx
 refine ⟨c, hr, fun j hj => ?_⟩
 have ht : t < xs.length := (List.getElem?_eq_some_iff.1 hx).1
 have hm : (t + 1) * f.size ≤ xs.length * f.size := Nat.mul_le_mul_right _ ht
 rw [Nat.add_mul, Nat.one_mul] at hm
 rw [List.getElem?_set_ne (by omega)]
 exact hc j hj
theorem PartOf.snoc (h : PartOf f w F cs xs) {c : List Value} {x : α} (hr : f.reads w F c x) (hc : ∀ j, j < f.size → cs[xs.length * f.size + j]? = c[j]?) : PartOf f w F cs (xs ++ [x]) := fun t y hy => by
 rcases Nat.lt_or_ge t xs.length with ht | ht
 ·rw [List.getElem?_append_left ht] at hy
  exact h t y hy
 ·rw [List.getElem?_append_right ht] at hy
  have e : t - xs.length = 0 := by
   rcases Nat.eq_zero_or_pos (t - xs.length) with q | q
   ·exact q
   ·rw [List.getElem?_eq_none (by simp; omega)] at hy; cases hy
  rw [e] at hy
  simp at hy
  subst hy
  obtain rfl : t = xs.length := by omega
  exact ⟨c, hr, hc⟩
theorem PartOf.row (h : PartOf f w F cs xs) {b n : Nat} {E : TypeId} (hb : Box w b cs E) (hn : xs.length = n) (hm : n ≤ maxLen) (hG : 0 < n → G b) (hF : ∀ b, F b → b < w.heap.size → G b) : RowAt f w G (some ⟨b, 0, none⟩) n n b 0 xs := by
 refine ⟨hn, Nat.le_refl _, hm, fun _ => rfl, fun _ => hb.lt, hG, fun i x hx => ?_⟩
 obtain ⟨c, hr, hc⟩ := h i x hx
 exact ⟨c, f.wide hF hr, fun j hj => by rw [Nat.zero_add, hb.cell]; exact hc j hj⟩
end
theorem sets6 {cs : List Value} {a : Nat} (h : a + 6 ≤ cs.length) (v0 v1 v2 v3 v4 v5 : Value) :
  ∀ j, j < 6 → ((((((cs.set a v0).set (a + 1) v1).set (a + 2) v2).set (a + 3) v3).set (a + 4) v4).set (a + 5) v5)[a + j]? = [v0, v1, v2, v3, v4, v5][j]? := by
 intro j hj
 rcases (by omega : j = 0 ∨ j = 1 ∨ j = 2 ∨ j = 3 ∨ j = 4 ∨ j = 5) with rfl | rfl | rfl | rfl | rfl | rfl <;> simp [List.getElem?_set] <;> omega
theorem Box.has {w : World} {b : Nat} {cs : List Value} {t : TypeId} (h : Box w b cs t) {i : Nat} (hi : i < cs.length) : ∃ v, w.cell? ⟨b, i, none⟩ = some v := ⟨cs[i], by rw [h.cell, List.getElem?_eq_getElem hi]⟩
theorem cell_keep' {w w' : World} {a : Addr} {v : Value} (hb : Below w.heap.size w w') (h : w.cell? a = some v) : w'.cell? a = some v := (hb.cell (World.block_lt_of_cell? w _ h)).trans h
structure Cells6 (w : World) (b i : Nat) (v0 v1 v2 v3 v4 v5 : Value) : Prop where
 c0 : w.cell? ⟨b, i, none⟩ = some v0
 c1 : w.cell? ⟨b, i + 1, none⟩ = some v1
 c2 : w.cell? ⟨b, i + 2, none⟩ = some v2
 c3 : w.cell? ⟨b, i + 3, none⟩ = some v3
 c4 : w.cell? ⟨b, i + 4, none⟩ = some v4
 c5 : w.cell? ⟨b, i + 5, none⟩ = some v5
section
variable {w w' : World} {b i : Nat} {v0 v1 v2 v3 v4 v5 : Value}
theorem Cells6.keep (h : Cells6 w b i v0 v1 v2 v3 v4 v5) (hb : Below w.heap.size w w') : Cells6 w' b i v0 v1 v2 v3 v4 v5 := ⟨cell_keep' hb h.c0, cell_keep' hb h.c1, cell_keep' hb h.c2, cell_keep' hb h.c3, cell_keep' hb h.c4, cell_keep' hb h.c5⟩
theorem Cells6.alloc (h : Cells6 w b i v0 v1 v2 v3 v4 v5) (o : Obj) : Cells6 (w.alloc o) b i v0 v1 v2 v3 v4 v5 := h.keep ((Below.refl w.heap.size w).alloc (Nat.le_refl _) o)
theorem Cells6.drewN (h : Cells6 w b i v0 v1 v2 v3 v4 v5) (n : Nat) : Cells6 (w.drewN n) b i v0 v1 v2 v3 v4 v5 := ⟨h.c0, h.c1, h.c2, h.c3, h.c4, h.c5⟩
theorem Cells6.drew (h : Cells6 w b i v0 v1 v2 v3 v4 v5) : Cells6 w.drew b i v0 v1 v2 v3 v4 v5 := ⟨h.c0, h.c1, h.c2, h.c3, h.c4, h.c5⟩
theorem Cells6.far (h : Cells6 w b i v0 v1 v2 v3 v4 v5) {a : Addr} (hne : b ≠ a.block) (v : Value) : Cells6 (w.setCell a v) b i v0 v1 v2 v3 v4 v5 :=
  ⟨(World.cell?_of_block (a := ⟨b, i, none⟩) (Below.heap_setCell w a v b hne)).trans h.c0, (World.cell?_of_block (a := ⟨b, i + 1, none⟩) (Below.heap_setCell w a v b hne)).trans h.c1, (World.cell?_of_block (a := ⟨b, i + 2, none⟩) (Below.heap_setCell w a v b hne)).trans h.c2,
   (World.cell?_of_block (a := ⟨b, i + 3, none⟩) (Below.heap_setCell w a v b hne)).trans h.c3, (World.cell?_of_block (a := ⟨b, i + 4, none⟩) (Below.heap_setCell w a v b hne)).trans h.c4, (World.cell?_of_block (a := ⟨b, i + 5, none⟩) (Below.heap_setCell w a v b hne)).trans h.c5⟩
theorem Cells6.farS {S : Nat → Prop} (h : Cells6 w b i v0 v1 v2 v3 v4 v5) (hf : Far S w w') (hs : ¬ S b) : Cells6 w' b i v0 v1 v2 v3 v4 v5 := by
 have hl : b < w.heap.size := World.block_lt_of_cell? w _ h.c0
 have hk := hf.block b hl hs
 exact ⟨(World.cell?_of_block (a := ⟨b, i, none⟩) hk).trans h.c0, (World.cell?_of_block (a := ⟨b, i + 1, none⟩) hk).trans h.c1, (World.cell?_of_block (a := ⟨b, i + 2, none⟩) hk).trans h.c2, (World.cell?_of_block (a := ⟨b, i + 3, none⟩) hk).trans h.c3, (World.cell?_of_block (a := ⟨b, i + 4, none⟩) hk).trans h.c4, (World.cell?_of_block (a := ⟨b, i + 5, none⟩) hk).trans h.c5⟩
variable {c d j k : Nat} {t u : TypeId} {x0 x1 x2 x3 x4 x5 y0 y1 y2 y3 y4 y5 z0 z1 z2 z3 z4 z5 z6 r0 r1 : Value}
end
end Gal
end
