/- Texts joined: Part. -/
import Derived.Test.YtchngeagnlngaaaJ03
section
set_option linter.unusedVariables false
set_option linter.unusedSimpArgs false
namespace Gal
open Go Go.RowKit
def PartOf {α : Type} (f : Form α) (w : World) (F : Nat → Prop) (cs : List Value) (xs : List α) : Prop :=
 ∀ i x, xs[i]? = some x → ∃ c, f.reads w F c x ∧ ∀ j, j < f.size → cs[i * f.size + j]? = c[j]?
section
variable {α : Type} {f : Form α} {w w' : World} {F G : Nat → Prop} {cs : List Value} {xs : List α}
theorem PartOf.nil : PartOf f w F cs [] := fun i x h => by simp at h
theorem PartOf.kept (h : PartOf f w F cs xs) (hF : ∀ b, F b → b < w.heap.size → w'.heap[b]? = w.heap[b]?) : PartOf f w' F cs xs := fun i x hx => by
 obtain ⟨c, hr, hc⟩ := h i x hx
 exact ⟨c, f.keep hF hr, hc⟩
theorem PartOf.keep (h : PartOf f w F cs xs) (hb : Below w.heap.size w w') : PartOf f w' F cs xs := h.kept fun b _ hl => hb.block b hl
theorem PartOf.far {S : Nat → Prop} (h : PartOf f w F cs xs) (hf : Far S w w') (hs : ∀ b, F b → ¬ S b) : PartOf f w' F cs xs := h.kept fun b hb hl => hf.block b hl (hs b hb)
theorem PartOf.set (h : PartOf f w F cs xs) {i : Nat} (hi : xs.length * f.size ≤ i) (v : Value) : PartOf f w F (cs.set i v) xs := fun t x hx => by
 obtain ⟨c, hr, hc⟩ := h t x hx
 refine ⟨c, hr, fun j hj => ?_⟩
 have ht : t < xs.length := (List.getElem?_eq_some_iff.1 hx).1
 have hm : (t + 1) * f.size ≤ xs.length * f.size := Nat.mul_le_mul_right _ ht
 rw [Nat.add_mul, Nat.one_mul] at hm
 rw [List.getElem?_set_ne (by omega)]
 exact hc j hj
theorem PartOf.snoc (h : PartOf f w F cs xs) {c : List Value} {x : α} (hr : f.reads w F c x) (hc : ∀ j, j < f.size → cs[xs.length * f.size + j]? = c[j]?) : PartOf f w F cs (xs ++ [x]) := fun t y hy => by
 rcases Nat.lt_or_ge t xs.length with ht | ht
 ·rw [List.getElem?_append_left ht] at hy
  exact h t y hy
 ·rw [List.getElem?_append_right ht] at hy
  have e : t - xs.length = 0 := by
   rcases Nat.eq_zero_or_pos (t - xs.length) with q | q
   ·exact q
   ·rw [List.getElem?_eq_none (by simp; omega)] at hy; cases hy
  rw [e] at hy
  simp at hy
  subst hy
  obtain rfl : t = xs.length := by omega
  exact ⟨c, hr, hc⟩
theorem PartOf.row (h : PartOf f w F cs xs) {b n : Nat} {E : TypeId} (hb : Box w b cs E) (hn : xs.length = n) (hm : n ≤ maxLen) (hG : 0 < n → G b) (hF : ∀ b, F b → b < w.heap.size → G b) : RowAt f w G (some ⟨b, 0, none⟩) n n b 0 xs := by
 refine ⟨hn, Nat.le_refl _, hm, fun _ => rfl, fun _ => hb.lt, hG, fun i x hx => ?_⟩
 obtain ⟨c, hr, hc⟩ := h i x hx
 exact ⟨c, f.wide hF hr, fun j hj => by rw [Nat.zero_add, hb.cell]; exact hc j hj⟩
end
theorem sets6 {cs : List Value} {a : Nat} (h : a + 6 ≤ cs.length) (v0 v1 v2 v3 v4 v5 : Value) :
  ∀ j, j < 6 → ((((((cs.set a v0).set (a + 1) v1).set (a + 2) v2).set (a + 3) v3).set (a + 4) v4).set (a + 5) v5)[a + j]? = [v0, v1, v2, v3, v4, v5][j]? := by
 intro j hj
 rcases (by omega : j = 0 ∨ j = 1 ∨ j = 2 ∨ j = 3 ∨ j = 4 ∨ j = 5) with rfl | rfl | rfl | rfl | rfl | rfl <;> simp [List.getElem?_set] <;> omega
theorem sets7 {cs : List Value} {a : Nat} (h : a + 7 ≤ cs.length) (v0 v1 v2 v3 v4 v5 v6 : Value) :
  ∀ j, j < 7 → (((((((cs.set a v0).set (a + 1) v1).set (a + 2) v2).set (a + 3) v3).set (a + 4) v4).set (a + 5) v5).set (a + 6) v6)[a + j]? = [v0, v1, v2, v3, v4, v5, v6][j]? := by
 intro j hj
 rcases (by omega : j = 0 ∨ j = 1 ∨ j = 2 ∨ j = 3 ∨ j = 4 ∨ j = 5 ∨ j = 6) with rfl | rfl | rfl | rfl | rfl | rfl | rfl <;> simp [List.getElem?_set] <;> omega
theorem Box.has {w : World} {b : Nat} {cs : List Value} {t : TypeId} (h : Box w b cs t) {i : Nat} (hi : i < cs.length) : ∃ v, w.cell? ⟨b, i, none⟩ = some v := ⟨cs[i], by rw [h.cell, List.getElem?_eq_getElem hi]⟩
theorem step_push {P : Program} {w : World} {α : Type} {ops : Array Oper} {o : Oper} {a : Act} {K : Act → World → Prop} {Q : Exit → Act → World → Prop} {E : Prop} (hgd : o.guard = none) (s x : Operand) (t : TypeId)
  (ho : o.op = .call { callee := .builtin .append, args := #[s, x], argTypes := #[t, t] })
  (f : Form α) (base : Nat) (F : Nat → Prop) (e : TypeId) (i : TypeInfo) (z : Value) (bytes : Nat) (ht : P.underlying t = some (.slice e)) (hi : P.info? e = some i) (hz : i.zero = some z)
  (hsize : i.size = f.size) (hby : i.bytes = bytes) (hzs : z.cells.size = f.size) (hsz : 0 < f.size)
  (v : Value) (xs : List α) (hs : a.eval s = v) (hown : OwnRow f e w base F v xs)
  (b c : Nat) (cs : List Value) (te : TypeId) (y : α) (hx : a.eval x = .slice (some ⟨b, 0, none⟩) 1 c) (hbox : Box w b cs te) (hr : f.reads w (fun b => F b ∧ v.ownBlock ≠ some b) cs y)
  (hbytes : (xs.length + 1) * bytes ≤ 140737488355328) (hlen : xs.length + 1 ≤ maxLen) (hbase : base ≤ w.heap.size) (H : Nat) (hH : w.heap.size = H)
  (h : ∀ g cap w', OwnRow f e w' base F (.slice (some ⟨g, 0, none⟩) (xs.length + 1) cap) (xs ++ [y]) → w.grownBy w' v.ownBlock → (v.ownBlock = some g ∨ g = H) → g < w'.heap.size → K (a.put o.dst (.slice (some ⟨g, 0, none⟩) (xs.length + 1) cap)) w') :
  if Region.wanted o (yielded ops a.tmps) = true then Oper.wp P o a w K Q else E := by
 have hw : Region.wanted o (yielded ops a.tmps) = true := by simp [Region.wanted, hgd]
 rw [if_pos hw]
 exact wp_push s x t ho f base F e i z bytes ht hi hz hsize hby hzs hsz v xs hs hown b c cs te y hx hbox hr hbytes hlen hbase H hH h
theorem cell_keep' {w w' : World} {a : Addr} {v : Value} (hb : Below w.heap.size w w') (h : w.cell? a = some v) : w'.cell? a = some v := (hb.cell (World.block_lt_of_cell? w _ h)).trans h
structure Cells6 (w : World) (b i : Nat) (v0 v1 v2 v3 v4 v5 : Value) : Prop where
 c0 : w.cell? ⟨b, i, none⟩ = some v0
 c1 : w.cell? ⟨b, i + 1, none⟩ = some v1
 c2 : w.cell? ⟨b, i + 2, none⟩ = some v2
 c3 : w.cell? ⟨b, i + 3, none⟩ = some v3
 c4 : w.cell? ⟨b, i + 4, none⟩ = some v4
 c5 : w.cell? ⟨b, i + 5, none⟩ = some v5
section
variable {w w' : World} {b i : Nat} {v0 v1 v2 v3 v4 v5 : Value}
theorem Cells6.keep (h : Cells6 w b i v0 v1 v2 v3 v4 v5) (hb : Below w.heap.size w w') : Cells6 w' b i v0 v1 v2 v3 v4 v5 := ⟨cell_keep' hb h.c0, cell_keep' hb h.c1, cell_keep' hb h.c2, cell_keep' hb h.c3, cell_keep' hb h.c4, cell_keep' hb h.c5⟩
theorem Cells6.alloc (h : Cells6 w b i v0 v1 v2 v3 v4 v5) (o : Obj) : Cells6 (w.alloc o) b i v0 v1 v2 v3 v4 v5 := h.keep ((Below.refl w.heap.size w).alloc (Nat.le_refl _) o)
theorem Cells6.drewN (h : Cells6 w b i v0 v1 v2 v3 v4 v5) (n : Nat) : Cells6 (w.drewN n) b i v0 v1 v2 v3 v4 v5 := ⟨h.c0, h.c1, h.c2, h.c3, h.c4, h.c5⟩
theorem Cells6.drew (h : Cells6 w b i v0 v1 v2 v3 v4 v5) : Cells6 w.drew b i v0 v1 v2 v3 v4 v5 := ⟨h.c0, h.c1, h.c2, h.c3, h.c4, h.c5⟩
theorem Cells6.far (h : Cells6 w b i v0 v1 v2 v3 v4 v5) {a : Addr} (hne : b ≠ a.block) (v : Value) : Cells6 (w.setCell a v) b i v0 v1 v2 v3 v4 v5 :=
  ⟨(World.cell?_of_block (a := ⟨b, i, none⟩) (Below.heap_setCell w a v b hne)).trans h.c0, (World.cell?_of_block (a := ⟨b, i + 1, none⟩) (Below.heap_setCell w a v b hne)).trans h.c1, (World.cell?_of_block (a := ⟨b, i + 2, none⟩) (Below.heap_setCell w a v b hne)).trans h.c2,
   (World.cell?_of_block (a := ⟨b, i + 3, none⟩) (Below.heap_setCell w a v b hne)).trans h.c3, (World.cell?_of_block (a := ⟨b, i + 4, none⟩) (Below.heap_setCell w a v b hne)).trans h.c4, (World.cell?_of_block (a := ⟨b, i + 5, none⟩) (Below.heap_setCell w a v b hne)).trans h.c5⟩
theorem Cells6.farS {S : Nat → Prop} (h : Cells6 w b i v0 v1 v2 v3 v4 v5) (hf : Far S w w') (hs : ¬ S b) : Cells6 w' b i v0 v1 v2 v3 v4 v5 := by
 have hl : b < w.heap.size := World.block_lt_of_cell? w _ h.c0
 have hk := hf.block b hl hs
 exact ⟨(World.cell?_of_block (a := ⟨b, i, none⟩) hk).trans h.c0, (World.cell?_of_block (a := ⟨b, i + 1, none⟩) hk).trans h.c1, (World.cell?_of_block (a := ⟨b, i + 2, none⟩) hk).trans h.c2, (World.cell?_of_block (a := ⟨b, i + 3, none⟩) hk).trans h.c3, (World.cell?_of_block (a := ⟨b, i + 4, none⟩) hk).trans h.c4, (World.cell?_of_block (a := ⟨b, i + 5, none⟩) hk).trans h.c5⟩
variable {c d j k : Nat} {t u : TypeId} {x0 x1 x2 x3 x4 x5 y0 y1 y2 y3 y4 y5 z0 z1 z2 z3 z4 z5 z6 r0 r1 : Value}
theorem cells766 (h : Box w b [z0, z1, z2, z3, z4, z5, z6] t) (m : Cells6 w c j x0 x1 x2 x3 x4 x5) (l : Cells6 w d k y0 y1 y2 y3 y4 y5) :
  w.cell? ⟨b, 0, none⟩ = some z0 ∧ w.cell? ⟨b, 1, none⟩ = some z1 ∧ w.cell? ⟨b, 2, none⟩ = some z2 ∧ w.cell? ⟨b, 3, none⟩ = some z3 ∧ w.cell? ⟨b, 4, none⟩ = some z4 ∧ w.cell? ⟨b, 5, none⟩ = some z5 ∧ w.cell? ⟨b, 6, none⟩ = some z6 ∧
  w.cell? ⟨c, j, none⟩ = some x0 ∧ w.cell? ⟨c, j + 1, none⟩ = some x1 ∧ w.cell? ⟨c, j + 2, none⟩ = some x2 ∧ w.cell? ⟨c, j + 3, none⟩ = some x3 ∧ w.cell? ⟨c, j + 4, none⟩ = some x4 ∧ w.cell? ⟨c, j + 5, none⟩ = some x5 ∧
  w.cell? ⟨d, k, none⟩ = some y0 ∧ w.cell? ⟨d, k + 1, none⟩ = some y1 ∧ w.cell? ⟨d, k + 2, none⟩ = some y2 ∧ w.cell? ⟨d, k + 3, none⟩ = some y3 ∧ w.cell? ⟨d, k + 4, none⟩ = some y4 ∧ w.cell? ⟨d, k + 5, none⟩ = some y5 :=
 ⟨h.cell 0, h.cell 1, h.cell 2, h.cell 3, h.cell 4, h.cell 5, h.cell 6, m.c0, m.c1, m.c2, m.c3, m.c4, m.c5, l.c0, l.c1, l.c2, l.c3, l.c4, l.c5⟩
theorem cells_w {e : Nat} (h : Box w b [z0, z1, z2, z3, z4, z5, z6] t) (m : Cells6 w c j x0 x1 x2 x3 x4 x5) (l : Cells6 w d k y0 y1 y2 y3 y4 y5) (r : Box w e [r0, r1] u) :
  w.cell? ⟨b, 1, none⟩ = some z1 ∧ w.cell? ⟨b, 2, none⟩ = some z2 ∧ w.cell? ⟨b, 3, none⟩ = some z3 ∧ w.cell? ⟨c, j, none⟩ = some x0 ∧ w.cell? ⟨c, j + 1, none⟩ = some x1 ∧ w.cell? ⟨c, j + 2, none⟩ = some x2 ∧
  w.cell? ⟨d, k, none⟩ = some y0 ∧ w.cell? ⟨d, k + 1, none⟩ = some y1 ∧ w.cell? ⟨d, k + 2, none⟩ = some y2 ∧ w.cell? ⟨e, 0, none⟩ = some r0 ∧ w.cell? ⟨e, 1, none⟩ = some r1 :=
 ⟨h.cell 1, h.cell 2, h.cell 3, m.c0, m.c1, m.c2, l.c0, l.c1, l.c2, r.cell 0, r.cell 1⟩
theorem cells_b {e : Nat} (h : Box w b [z0, z1, z2, z3, z4, z5, z6] t) (m : Cells6 w c j x0 x1 x2 x3 x4 x5) (l : Cells6 w d k y0 y1 y2 y3 y4 y5) (r : Box w e [r0, r1] u) :
  w.cell? ⟨b, 4, none⟩ = some z4 ∧ w.cell? ⟨b, 5, none⟩ = some z5 ∧ w.cell? ⟨b, 6, none⟩ = some z6 ∧ w.cell? ⟨c, j + 3, none⟩ = some x3 ∧ w.cell? ⟨c, j + 4, none⟩ = some x4 ∧ w.cell? ⟨c, j + 5, none⟩ = some x5 ∧
  w.cell? ⟨d, k + 3, none⟩ = some y3 ∧ w.cell? ⟨d, k + 4, none⟩ = some y4 ∧ w.cell? ⟨d, k + 5, none⟩ = some y5 ∧ w.cell? ⟨e, 0, none⟩ = some r0 ∧ w.cell? ⟨e, 1, none⟩ = some r1 :=
 ⟨h.cell 4, h.cell 5, h.cell 6, m.c3, m.c4, m.c5, l.c3, l.c4, l.c5, r.cell 0, r.cell 1⟩
end
theorem box7_16 {w : World} {b : Nat} {t : TypeId} {v0 v1 v2 v3 v4 v5 v6 : Value} (h : Box w b [v0, v1, v2, v3, v4, v5, v6] t) :
  w.cell? ⟨b, 1, none⟩ = some v1 ∧ w.cell? ⟨b, 2, none⟩ = some v2 ∧ w.cell? ⟨b, 3, none⟩ = some v3 ∧ w.cell? ⟨b, 4, none⟩ = some v4 ∧ w.cell? ⟨b, 5, none⟩ = some v5 ∧ w.cell? ⟨b, 6, none⟩ = some v6 := ⟨h.cell 1, h.cell 2, h.cell 3, h.cell 4, h.cell 5, h.cell 6⟩
end Gal
end
