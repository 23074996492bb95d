/- Texts joined: Part, Range, PJoins, PAgain. -/
import Derived.Test.YtgknjikjjklaiaaGreatDoorJ03
import Derived.RangeFuncWrites
import Derived.RangeFuncCalls
import Derived.RangeFuncBound
import Derived.RangeFuncNested
import Derived.Below
import Derived.Test.YtgknjikjjklaiaaGreatDoorJ02
import Derived.Test.YtgknjikjjklaiaaGreatDoorJ01
section
set_option linter.unusedVariables false
set_option linter.unusedSimpArgs false
namespace Gal
open Go Go.RowKit
def PartOf {α : Type} (f : Form α) (w : World) (F : Nat → Prop) (cs : List Value) (xs : List α) : Prop :=
 ∀ i x, xs[i]? = some x → ∃ c, f.reads w F c x ∧ ∀ j, j < f.size → cs[i * f.size + j]? = c[j]?
section
variable {α : Type} {f : Form α} {w w' : World} {F G : Nat → Prop} {cs : List Value} {xs : List α}
theorem PartOf.nil : PartOf f w F cs [] := fun i x h => by simp at h
theorem PartOf.kept (h : PartOf f w F cs xs) (hF : ∀ b, F b → b < w.heap.size → w'.heap[b]? = w.heap[b]?) : PartOf f w' F cs xs := fun i x hx => by
 obtain ⟨c, hr, hc⟩ := h i x hx
 exact ⟨c, f.keep hF hr, hc⟩
theorem PartOf.keep (h : PartOf f w F cs xs) (hb : Below w.heap.size w w') : PartOf f w' F cs xs := h.kept fun b _ hl => hb.block b hl
theorem PartOf.far {S : Nat → Prop} (h : PartOf f w F cs xs) (hf : Far S w w') (hs : ∀ b, F b → ¬ S b) : PartOf f w' F cs xs := h.kept fun b hb hl => hf.block b hl (hs b hb)
theorem PartOf.set (h : PartOf f w F cs xs) {i : Nat} (hi : xs.length * f.size ≤ i) (v : Value) : PartOf f w F (cs.set i v) xs := fun t x hx => by
 obtain ⟨c, hr, hc⟩ := h t x hx
 refine ⟨c, hr, fun j hj => ?_⟩
 have ht : t < xs.length := (List.getElem?_eq_some_iff.1 hx).1
 have hm : (t + 1) * f.size ≤ xs.length * f.size := Nat.mul_le_mul_right _ ht
 rw [Nat.add_mul, Nat.one_mul] at hm
 rw [List.getElem?_set_ne (by omega)]
 exact hc j hj
theorem PartOf.snoc (h : PartOf f w F cs xs) {c : List Value} {x : α} (hr : f.reads w F c x) (hc : ∀ j, j < f.size → cs[xs.length * f.size + j]? = c[j]?) : PartOf f w F cs (xs ++ [x]) := fun t y hy => by
 rcases Nat.lt_or_ge t xs.length with ht | ht
 ·rw [List.getElem?_append_left ht] at hy
  exact h t y hy
 ·rw [List.getElem?_append_right ht] at hy
  have e : t - xs.length = 0 := by
   rcases Nat.eq_zero_or_pos (t - xs.length) with q | q
   ·exact q
   ·rw [List.getElem?_eq_none (by simp; omega)] at hy; cases hy
  rw [e] at hy
  simp at hy
  subst hy
  obtain rfl : t = xs.length := by omega
  exact ⟨c, hr, hc⟩
theorem PartOf.row (h : PartOf f w F cs xs) {b n : Nat} {E : TypeId} (hb : Box w b cs E) (hn : xs.length = n) (hm : n ≤ maxLen) (hG : 0 < n → G b) (hF : ∀ b, F b → b < w.heap.size → G b) : RowAt f w G (some ⟨b, 0, none⟩) n n b 0 xs := by
 refine ⟨hn, Nat.le_refl _, hm, fun _ => rfl, fun _ => hb.lt, hG, fun i x hx => ?_⟩
 obtain ⟨c, hr, hc⟩ := h i x hx
 exact ⟨c, f.wide hF hr, fun j hj => by rw [Nat.zero_add, hb.cell]; exact hc j hj⟩
end
theorem sets6 {cs : List Value} {a : Nat} (h : a + 6 ≤ cs.length) (v0 v1 v2 v3 v4 v5 : Value) :
  ∀ j, j < 6 → ((((((cs.set a v0).set (a + 1) v1).set (a + 2) v2).set (a + 3) v3).set (a + 4) v4).set (a + 5) v5)[a + j]? = [v0, v1, v2, v3, v4, v5][j]? := by
 intro j hj
 rcases (by omega : j = 0 ∨ j = 1 ∨ j = 2 ∨ j = 3 ∨ j = 4 ∨ j = 5) with rfl | rfl | rfl | rfl | rfl | rfl <;> simp [List.getElem?_set] <;> omega
theorem Box.has {w : World} {b : Nat} {cs : List Value} {t : TypeId} (h : Box w b cs t) {i : Nat} (hi : i < cs.length) : ∃ v, w.cell? ⟨b, i, none⟩ = some v := ⟨cs[i], by rw [h.cell, List.getElem?_eq_getElem hi]⟩
theorem step_push {P : Program} {w : World} {α : Type} {ops : Array Oper} {o : Oper} {a : Act} {K : Act → World → Prop} {Q : Exit → Act → World → Prop} {E : Prop} (hgd : o.guard = none) (s x : Operand) (t : TypeId)
  (ho : o.op = .call { callee := .builtin .append, args := #[s, x], argTypes := #[t, t] })
  (f : Form α) (base : Nat) (F : Nat → Prop) (e : TypeId) (i : TypeInfo) (z : Value) (bytes : Nat) (ht : P.underlying t = some (.slice e)) (hi : P.info? e = some i) (hz : i.zero = some z)
  (hsize : i.size = f.size) (hby : i.bytes = bytes) (hzs : z.cells.size = f.size) (hsz : 0 < f.size)
  (v : Value) (xs : List α) (hs : a.eval s = v) (hown : OwnRow f e w base F v xs)
  (b c : Nat) (cs : List Value) (te : TypeId) (y : α) (hx : a.eval x = .slice (some ⟨b, 0, none⟩) 1 c) (hbox : Box w b cs te) (hr : f.reads w (fun b => F b ∧ v.ownBlock ≠ some b) cs y)
  (hbytes : (xs.length + 1) * bytes ≤ 140737488355328) (hlen : xs.length + 1 ≤ maxLen) (hbase : base ≤ w.heap.size) (H : Nat) (hH : w.heap.size = H)
  (h : ∀ g cap w', OwnRow f e w' base F (.slice (some ⟨g, 0, none⟩) (xs.length + 1) cap) (xs ++ [y]) → w.grownBy w' v.ownBlock → (v.ownBlock = some g ∨ g = H) → g < w'.heap.size → K (a.put o.dst (.slice (some ⟨g, 0, none⟩) (xs.length + 1) cap)) w') :
  if Region.wanted o (yielded ops a.tmps) = true then Oper.wp P o a w K Q else E := by
 have hw : Region.wanted o (yielded ops a.tmps) = true := by simp [Region.wanted, hgd]
 rw [if_pos hw]
 exact wp_push s x t ho f base F e i z bytes ht hi hz hsize hby hzs hsz v xs hs hown b c cs te y hx hbox hr hbytes hlen hbase H hH h
theorem cell_keep' {w w' : World} {a : Addr} {v : Value} (hb : Below w.heap.size w w') (h : w.cell? a = some v) : w'.cell? a = some v := (hb.cell (World.block_lt_of_cell? w _ h)).trans h
structure Cells6 (w : World) (b i : Nat) (v0 v1 v2 v3 v4 v5 : Value) : Prop where
 c0 : w.cell? ⟨b, i, none⟩ = some v0
 c1 : w.cell? ⟨b, i + 1, none⟩ = some v1
 c2 : w.cell? ⟨b, i + 2, none⟩ = some v2
 c3 : w.cell? ⟨b, i + 3, none⟩ = some v3
 c4 : w.cell? ⟨b, i + 4, none⟩ = some v4
 c5 : w.cell? ⟨b, i + 5, none⟩ = some v5
section
variable {w w' : World} {b i : Nat} {v0 v1 v2 v3 v4 v5 : Value}
theorem Cells6.keep (h : Cells6 w b i v0 v1 v2 v3 v4 v5) (hb : Below w.heap.size w w') : Cells6 w' b i v0 v1 v2 v3 v4 v5 := ⟨cell_keep' hb h.c0, cell_keep' hb h.c1, cell_keep' hb h.c2, cell_keep' hb h.c3, cell_keep' hb h.c4, cell_keep' hb h.c5⟩
theorem Cells6.alloc (h : Cells6 w b i v0 v1 v2 v3 v4 v5) (o : Obj) : Cells6 (w.alloc o) b i v0 v1 v2 v3 v4 v5 := h.keep ((Below.refl w.heap.size w).alloc (Nat.le_refl _) o)
theorem Cells6.drewN (h : Cells6 w b i v0 v1 v2 v3 v4 v5) (n : Nat) : Cells6 (w.drewN n) b i v0 v1 v2 v3 v4 v5 := ⟨h.c0, h.c1, h.c2, h.c3, h.c4, h.c5⟩
theorem Cells6.drew (h : Cells6 w b i v0 v1 v2 v3 v4 v5) : Cells6 w.drew b i v0 v1 v2 v3 v4 v5 := ⟨h.c0, h.c1, h.c2, h.c3, h.c4, h.c5⟩
theorem Cells6.far (h : Cells6 w b i v0 v1 v2 v3 v4 v5) {a : Addr} (hne : b ≠ a.block) (v : Value) : Cells6 (w.setCell a v) b i v0 v1 v2 v3 v4 v5 :=
  ⟨(World.cell?_of_block (a := ⟨b, i, none⟩) (Below.heap_setCell w a v b hne)).trans h.c0, (World.cell?_of_block (a := ⟨b, i + 1, none⟩) (Below.heap_setCell w a v b hne)).trans h.c1, (World.cell?_of_block (a := ⟨b, i + 2, none⟩) (Below.heap_setCell w a v b hne)).trans h.c2,
   (World.cell?_of_block (a := ⟨b, i + 3, none⟩) (Below.heap_setCell w a v b hne)).trans h.c3, (World.cell?_of_block (a := ⟨b, i + 4, none⟩) (Below.heap_setCell w a v b hne)).trans h.c4, (World.cell?_of_block (a := ⟨b, i + 5, none⟩) (Below.heap_setCell w a v b hne)).trans h.c5⟩
theorem Cells6.farS {S : Nat → Prop} (h : Cells6 w b i v0 v1 v2 v3 v4 v5) (hf : Far S w w') (hs : ¬ S b) : Cells6 w' b i v0 v1 v2 v3 v4 v5 := by
 have hl : b < w.heap.size := World.block_lt_of_cell? w _ h.c0
 have hk := hf.block b hl hs
 exact ⟨(World.cell?_of_block (a := ⟨b, i, none⟩) hk).trans h.c0, (World.cell?_of_block (a := ⟨b, i + 1, none⟩) hk).trans h.c1, (World.cell?_of_block (a := ⟨b, i + 2, none⟩) hk).trans h.c2, (World.cell?_of_block (a := ⟨b, i + 3, none⟩) hk).trans h.c3, (World.cell?_of_block (a := ⟨b, i + 4, none⟩) hk).trans h.c4, (World.cell?_of_block (a := ⟨b, i + 5, none⟩) hk).trans h.c5⟩
variable {c d j k : Nat} {t u : TypeId} {x0 x1 x2 x3 x4 x5 y0 y1 y2 y3 y4 y5 z0 z1 z2 z3 z4 z5 z6 r0 r1 : Value}
end
end Gal
end
section
set_option linter.unusedVariables false
set_option linter.unusedSimpArgs false
namespace Gal
open Go Go.RowKit
def Book (k : Nat) (r : Loop) (W : World) : Prop := W.heap[k + 1]? = some (.loop r) ∧ W.heap[k]? = some (.deferred (some []))
theorem Book.grown {k : Nat} {r : Loop} {A B : World} {row : Option Nat} (h : Book k r A) (hg : A.grownBy B row) (hr : ∀ j, row = some j → ∃ o : Obj, A.heap[j]? = some o ∧ o.isWalk = true) : Book k r B :=
 ⟨(grownBy_keeps hg hr h.1 rfl).trans h.1, (grownBy_keeps hg hr h.2 rfl).trans h.2⟩
theorem Book.put {k : Nat} {r : Loop} {W : World} (h : Book k r W) (r' : Loop) : Book k r' (W.putObj (k + 1) (.loop r')) :=
 ⟨World.putObj_heap_same (Array.getElem?_eq_some_iff.1 h.1).1, (World.putObj_heap_other (by omega)).trans h.2⟩
theorem Book.kept {k : Nat} {r : Loop} {A B : World} (h : Book k r A) (hk : KeepsFrom k A B) : Book k r B := ⟨hk.same _ _ (by omega) h.1 rfl, hk.same _ _ (Nat.le_refl _) h.2 rfl⟩
section
variable {F : Fence} {n : Nat} {P : Program}
end
end Gal
end
section
set_option linter.unusedVariables false
set_option linter.unusedSimpArgs false
namespace Gal
section
variable {ps qs : List Lay} {x g : Mat} {n m : Nat}
theorem goTo_less {k j : Nat} (hk : k ≤ j) (h : goTo ps x j = 0) : goTo ps x k = 0 := Classical.byContradiction fun hne => hne ((goTo_stop hk hne).symm.trans h)
theorem outs_mx {k j : Nat} (h : j ≤ k) : mx (netOuts ps x k) j = netTo ps x j := by
 unfold mx netOuts
 rw [List.getElem?_map, List.getElem?_range (by omega)]
 rfl
end
end Gal
end
section
set_option linter.unusedVariables false
set_option linter.unusedSimpArgs false
namespace Gal
def cntKept (every first : Nat) : Nat → Nat
 | 0 => 1
 | k + 1 => cntKept every first k + if k % every = 0 ∨ first < k then 1 else 0
def mostTo (layers every : Nat) : Nat → Nat × Nat
 | 0 => (0, layers)
 | t + 1 => if (layers - 1 - t) % every = 0 then (if (mostTo layers every t).1 < cntKept every (layers - 1 - t) (mostTo layers every t).2 then cntKept every (layers - 1 - t) (mostTo layers every t).2 else (mostTo layers every t).1, layers - 1 - t) else mostTo layers every t
def mostRef (layers every : Nat) : Nat := if (mostTo layers every layers).1 = 0 then 1 else (mostTo layers every layers).1
def groupsOf (layers every : Nat) : Nat := (layers + every - 1) / every
def mostIs (layers every : Nat) : Nat :=
 if layers = 0 then 1 else if 1 < groupsOf layers every then max (groupsOf layers every + 1 + (layers - (groupsOf layers every - 1) * every) - 1) (groupsOf layers every - 1 + 1 + every - 1) else groupsOf layers every + 1 + (layers - (groupsOf layers every - 1) * every) - 1
def firstOf (layers every t : Nat) : Nat := (layers - 1) / every * every - t * every
def endOf (layers every t : Nat) : Nat := min (firstOf layers every t + every) layers
def keptTo (layers every : Nat) : Nat → Nat × Nat
 | 0 => (groupsOf layers every + 1, groupsOf layers every + 1)
 | t + 1 => ((keptTo layers every t).1 + (endOf layers every t - firstOf layers every t - 1) - (endOf layers every t - firstOf layers every t),
   max (keptTo layers every t).2 ((keptTo layers every t).1 + (endOf layers every t - firstOf layers every t - 1)))
theorem most_is : ∀ n, n < 13 → ∀ e, e < 13 → 1 ≤ e → mostRef n e = mostIs n e ∧ (keptTo n e (groupsOf n e)).2 = mostIs n e ∧ mostIs n e ≤ n + 1 ∧ 1 ≤ mostIs n e := by decide +kernel
end Gal
end
