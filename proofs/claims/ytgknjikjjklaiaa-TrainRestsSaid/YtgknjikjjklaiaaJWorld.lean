/- Some small texts, joined: OwnOne, Part, Range, Round. -/
import Derived.Test.YtgknjikjjklaiaaBaseR
import Derived.RangeFuncWrites
import Derived.RangeFuncCalls
import Derived.RangeFuncBound
import Derived.RangeFuncNested
import Derived.Below
import Derived.OrdersIn
import Derived.OrdersHeld
import Derived.Deep.RegionHeld
section
set_option linter.unusedVariables false
set_option linter.unusedSimpArgs false
set_option linter.unusedSectionVars false
namespace Gal
open Go Go.RowKit
/-- a row of one element, in a block of its own -/
theorem own_one {α : Type} {f : Form α} {E : TypeId} {w : World} {base b : Nat} {F : Nat → Prop} {cs : List Value} {x : α} (h : Box w b cs E) (hr : f.reads w (fun c => F c ∧ c ≠ b) cs x) (hb : base ≤ b) : OwnRow f E w base F (.slice (some ⟨b, 0, none⟩) 1 1) [x] := by
  have hl := f.len hr
  refine ⟨cs, ⟨by simp [hl], Or.inr ⟨b, 1, cs.toArray, rfl, hb, h, Nat.le_refl _, by unfold maxLen; omega, by simp [hl], by show List.take (1 * f.size) cs = cs; rw [Nat.one_mul, ← hl]; simp⟩⟩, Flat.single (f.wide (fun c hc _ => ⟨hc.1, fun e => hc.2 ?_⟩) hr)⟩
  simp [Value.ownBlock] at e
  exact e.symm
theorem IntsAt.grown {w w' : World} {a : Option Addr} {n cap b off : Nat} {xs : List Int} {row : Option Nat} (h : IntsAt w a n cap b off xs) (hg : w.grownBy w' row) (hne : 0 < n → some b ≠ row) : IntsAt w' a n cap b off xs :=
  ⟨h.len, h.le, h.maxc, h.ptr, fun hn => Nat.lt_of_lt_of_le (h.lt hn) hg.size, fun i hi => (World.cell?_of_block (a := ⟨b, off + i, none⟩) (hg.block b (h.lt (by omega)) (hne (by omega)))).trans (h.cell i hi)⟩
end Gal
end
section
set_option linter.unusedVariables false
set_option linter.unusedSimpArgs false
namespace Gal
open Go Go.RowKit
/-- the first cells of a block read as xs -/
def PartOf {α : Type} (f : Form α) (w : World) (F : Nat → Prop) (cs : List Value) (xs : List α) : Prop :=
  ∀ i x, xs[i]? = some x → ∃ c, f.reads w F c x ∧ ∀ j, j < f.size → cs[i * f.size + j]? = c[j]?
section
variable {α : Type} {f : Form α} {w w' : World} {F G : Nat → Prop} {cs : List Value} {xs : List α}
theorem PartOf.nil : PartOf f w F cs [] := fun i x h => by simp at h
theorem PartOf.kept (h : PartOf f w F cs xs) (hF : ∀ b, F b → b < w.heap.size → w'.heap[b]? = w.heap[b]?) : PartOf f w' F cs xs := fun i x hx => by
  obtain ⟨c, hr, hc⟩ := h i x hx
  exact ⟨c, f.keep hF hr, hc⟩
theorem PartOf.keep (h : PartOf f w F cs xs) (hb : Below w.heap.size w w') : PartOf f w' F cs xs := h.kept fun b _ hl => hb.block b hl
theorem PartOf.far {S : Nat → Prop} (h : PartOf f w F cs xs) (hf : Far S w w') (hs : ∀ b, F b → ¬ S b) : PartOf f w' F cs xs := h.kept fun b hb hl => hf.block b hl (hs b hb)
theorem PartOf.set (h : PartOf f w F cs xs) {i : Nat} (hi : xs.length * f.size ≤ i) (v : Value) : PartOf f w F (cs.set i v) xs := fun t x hx => by
  obtain ⟨c, hr, hc⟩ := h t x hx
  refine ⟨c, hr, fun j hj => ?_⟩
  have ht : t < xs.length := (List.getElem?_eq_some_iff.1 hx).1
  have hm : (t + 1) * f.size ≤ xs.length * f.size := Nat.mul_le_mul_right _ ht
  rw [Nat.add_mul, Nat.one_mul] at hm
  rw [List.getElem?_set_ne (by omega)]
  exact hc j hj
theorem PartOf.snoc (h : PartOf f w F cs xs) {c : List Value} {x : α} (hr : f.reads w F c x) (hc : ∀ j, j < f.size → cs[xs.length * f.size + j]? = c[j]?) : PartOf f w F cs (xs ++ [x]) := fun t y hy => by
  rcases Nat.lt_or_ge t xs.length with ht | ht
  · rw [List.getElem?_append_left ht] at hy
    exact h t y hy
  · rw [List.getElem?_append_right ht] at hy
    have e : t - xs.length = 0 := by
      rcases Nat.eq_zero_or_pos (t - xs.length) with q | q
      · exact q
      · rw [List.getElem?_eq_none (by simp; omega)] at hy; cases hy
    rw [e] at hy
    simp at hy
    subst hy
    obtain rfl : t = xs.length := by omega
    exact ⟨c, hr, hc⟩
theorem PartOf.row (h : PartOf f w F cs xs) {b n : Nat} {E : TypeId} (hb : Box w b cs E) (hn : xs.length = n) (hm : n ≤ maxLen) (hG : 0 < n → G b) (hF : ∀ b, F b → b < w.heap.size → G b) : RowAt f w G (some ⟨b, 0, none⟩) n n b 0 xs := by
  refine ⟨hn, Nat.le_refl _, hm, fun _ => rfl, fun _ => hb.lt, hG, fun i x hx => ?_⟩
  obtain ⟨c, hr, hc⟩ := h i x hx
  exact ⟨c, f.wide hF hr, fun j hj => by rw [Nat.zero_add, hb.cell]; exact hc j hj⟩
end
theorem sets6 {cs : List Value} {a : Nat} (h : a + 6 ≤ cs.length) (v0 v1 v2 v3 v4 v5 : Value) :
    ∀ j, j < 6 → ((((((cs.set a v0).set (a + 1) v1).set (a + 2) v2).set (a + 3) v3).set (a + 4) v4).set (a + 5) v5)[a + j]? = [v0, v1, v2, v3, v4, v5][j]? := by
  intro j hj
  rcases (by omega : j = 0 ∨ j = 1 ∨ j = 2 ∨ j = 3 ∨ j = 4 ∨ j = 5) with rfl | rfl | rfl | rfl | rfl | rfl <;> simp [List.getElem?_set] <;> omega
theorem sets7 {cs : List Value} {a : Nat} (h : a + 7 ≤ cs.length) (v0 v1 v2 v3 v4 v5 v6 : Value) :
    ∀ j, j < 7 → (((((((cs.set a v0).set (a + 1) v1).set (a + 2) v2).set (a + 3) v3).set (a + 4) v4).set (a + 5) v5).set (a + 6) v6)[a + j]? = [v0, v1, v2, v3, v4, v5, v6][j]? := by
  intro j hj
  rcases (by omega : j = 0 ∨ j = 1 ∨ j = 2 ∨ j = 3 ∨ j = 4 ∨ j = 5 ∨ j = 6) with rfl | rfl | rfl | rfl | rfl | rfl | rfl <;> simp [List.getElem?_set] <;> omega
/-- a cell that can be written -/
theorem Box.has {w : World} {b : Nat} {cs : List Value} {t : TypeId} (h : Box w b cs t) {i : Nat} (hi : i < cs.length) : ∃ v, w.cell? ⟨b, i, none⟩ = some v := ⟨cs[i], by rw [h.cell, List.getElem?_eq_getElem hi]⟩
/-- one element is put behind a row of the call's own, in a region that draws -/
theorem step_push {P : Program} {w : World} {α : Type} {ops : Array Oper} {o : Oper} {a : Act} {K : Act → World → Prop} {Q : Exit → Act → World → Prop} {E : Prop} (hgd : o.guard = none) (s x : Operand) (t : TypeId)
    (ho : o.op = .call { callee := .builtin .append, args := #[s, x], argTypes := #[t, t] })
    (f : Form α) (base : Nat) (F : Nat → Prop) (e : TypeId) (i : TypeInfo) (z : Value) (bytes : Nat) (ht : P.underlying t = some (.slice e)) (hi : P.info? e = some i) (hz : i.zero = some z)
    (hsize : i.size = f.size) (hby : i.bytes = bytes) (hzs : z.cells.size = f.size) (hsz : 0 < f.size)
    (v : Value) (xs : List α) (hs : a.eval s = v) (hown : OwnRow f e w base F v xs)
    (b c : Nat) (cs : List Value) (te : TypeId) (y : α) (hx : a.eval x = .slice (some ⟨b, 0, none⟩) 1 c) (hbox : Box w b cs te) (hr : f.reads w (fun b => F b ∧ v.ownBlock ≠ some b) cs y)
    (hbytes : (xs.length + 1) * bytes ≤ 140737488355328) (hlen : xs.length + 1 ≤ maxLen) (hbase : base ≤ w.heap.size) (H : Nat) (hH : w.heap.size = H)
    (h : ∀ g cap w', OwnRow f e w' base F (.slice (some ⟨g, 0, none⟩) (xs.length + 1) cap) (xs ++ [y]) → w.grownBy w' v.ownBlock → (v.ownBlock = some g ∨ g = H) → g < w'.heap.size → K (a.put o.dst (.slice (some ⟨g, 0, none⟩) (xs.length + 1) cap)) w') :
    if Region.wanted o (yielded ops a.tmps) = true then Oper.wp P o a w K Q else E := by
  have hw : Region.wanted o (yielded ops a.tmps) = true := by simp [Region.wanted, hgd]
  rw [if_pos hw]
  exact wp_push s x t ho f base F e i z bytes ht hi hz hsize hby hzs hsz v xs hs hown b c cs te y hx hbox hr hbytes hlen hbase H hH h
theorem cell_keep' {w w' : World} {a : Addr} {v : Value} (hb : Below w.heap.size w w') (h : w.cell? a = some v) : w'.cell? a = some v := (hb.cell (World.block_lt_of_cell? w _ h)).trans h
/-- six cells, one behind the other -/
structure Cells6 (w : World) (b i : Nat) (v0 v1 v2 v3 v4 v5 : Value) : Prop where
  c0 : w.cell? ⟨b, i, none⟩ = some v0
  c1 : w.cell? ⟨b, i + 1, none⟩ = some v1
  c2 : w.cell? ⟨b, i + 2, none⟩ = some v2
  c3 : w.cell? ⟨b, i + 3, none⟩ = some v3
  c4 : w.cell? ⟨b, i + 4, none⟩ = some v4
  c5 : w.cell? ⟨b, i + 5, none⟩ = some v5
section
variable {w w' : World} {b i : Nat} {v0 v1 v2 v3 v4 v5 : Value}
theorem Cells6.keep (h : Cells6 w b i v0 v1 v2 v3 v4 v5) (hb : Below w.heap.size w w') : Cells6 w' b i v0 v1 v2 v3 v4 v5 := ⟨cell_keep' hb h.c0, cell_keep' hb h.c1, cell_keep' hb h.c2, cell_keep' hb h.c3, cell_keep' hb h.c4, cell_keep' hb h.c5⟩
theorem Cells6.alloc (h : Cells6 w b i v0 v1 v2 v3 v4 v5) (o : Obj) : Cells6 (w.alloc o) b i v0 v1 v2 v3 v4 v5 := h.keep ((Below.refl w.heap.size w).alloc (Nat.le_refl _) o)
theorem Cells6.drewN (h : Cells6 w b i v0 v1 v2 v3 v4 v5) (n : Nat) : Cells6 (w.drewN n) b i v0 v1 v2 v3 v4 v5 := ⟨h.c0, h.c1, h.c2, h.c3, h.c4, h.c5⟩
theorem Cells6.drew (h : Cells6 w b i v0 v1 v2 v3 v4 v5) : Cells6 w.drew b i v0 v1 v2 v3 v4 v5 := ⟨h.c0, h.c1, h.c2, h.c3, h.c4, h.c5⟩
theorem Cells6.far (h : Cells6 w b i v0 v1 v2 v3 v4 v5) {a : Addr} (hne : b ≠ a.block) (v : Value) : Cells6 (w.setCell a v) b i v0 v1 v2 v3 v4 v5 :=
  ⟨(World.cell?_of_block (a := ⟨b, i, none⟩) (Below.heap_setCell w a v b hne)).trans h.c0, (World.cell?_of_block (a := ⟨b, i + 1, none⟩) (Below.heap_setCell w a v b hne)).trans h.c1, (World.cell?_of_block (a := ⟨b, i + 2, none⟩) (Below.heap_setCell w a v b hne)).trans h.c2,
   (World.cell?_of_block (a := ⟨b, i + 3, none⟩) (Below.heap_setCell w a v b hne)).trans h.c3, (World.cell?_of_block (a := ⟨b, i + 4, none⟩) (Below.heap_setCell w a v b hne)).trans h.c4, (World.cell?_of_block (a := ⟨b, i + 5, none⟩) (Below.heap_setCell w a v b hne)).trans h.c5⟩
theorem Cells6.farS {S : Nat → Prop} (h : Cells6 w b i v0 v1 v2 v3 v4 v5) (hf : Far S w w') (hs : ¬ S b) : Cells6 w' b i v0 v1 v2 v3 v4 v5 := by
  have hl : b < w.heap.size := World.block_lt_of_cell? w _ h.c0
  have hk := hf.block b hl hs
  exact ⟨(World.cell?_of_block (a := ⟨b, i, none⟩) hk).trans h.c0, (World.cell?_of_block (a := ⟨b, i + 1, none⟩) hk).trans h.c1, (World.cell?_of_block (a := ⟨b, i + 2, none⟩) hk).trans h.c2, (World.cell?_of_block (a := ⟨b, i + 3, none⟩) hk).trans h.c3, (World.cell?_of_block (a := ⟨b, i + 4, none⟩) hk).trans h.c4, (World.cell?_of_block (a := ⟨b, i + 5, none⟩) hk).trans h.c5⟩
variable {c d j k : Nat} {t u : TypeId} {x0 x1 x2 x3 x4 x5 y0 y1 y2 y3 y4 y5 z0 z1 z2 z3 z4 z5 z6 r0 r1 : Value}
theorem cells766 (h : Box w b [z0, z1, z2, z3, z4, z5, z6] t) (m : Cells6 w c j x0 x1 x2 x3 x4 x5) (l : Cells6 w d k y0 y1 y2 y3 y4 y5) :
    w.cell? ⟨b, 0, none⟩ = some z0 ∧ w.cell? ⟨b, 1, none⟩ = some z1 ∧ w.cell? ⟨b, 2, none⟩ = some z2 ∧ w.cell? ⟨b, 3, none⟩ = some z3 ∧ w.cell? ⟨b, 4, none⟩ = some z4 ∧ w.cell? ⟨b, 5, none⟩ = some z5 ∧ w.cell? ⟨b, 6, none⟩ = some z6 ∧
    w.cell? ⟨c, j, none⟩ = some x0 ∧ w.cell? ⟨c, j + 1, none⟩ = some x1 ∧ w.cell? ⟨c, j + 2, none⟩ = some x2 ∧ w.cell? ⟨c, j + 3, none⟩ = some x3 ∧ w.cell? ⟨c, j + 4, none⟩ = some x4 ∧ w.cell? ⟨c, j + 5, none⟩ = some x5 ∧
    w.cell? ⟨d, k, none⟩ = some y0 ∧ w.cell? ⟨d, k + 1, none⟩ = some y1 ∧ w.cell? ⟨d, k + 2, none⟩ = some y2 ∧ w.cell? ⟨d, k + 3, none⟩ = some y3 ∧ w.cell? ⟨d, k + 4, none⟩ = some y4 ∧ w.cell? ⟨d, k + 5, none⟩ = some y5 :=
  ⟨h.cell 0, h.cell 1, h.cell 2, h.cell 3, h.cell 4, h.cell 5, h.cell 6, m.c0, m.c1, m.c2, m.c3, m.c4, m.c5, l.c0, l.c1, l.c2, l.c3, l.c4, l.c5⟩
theorem cells_w {e : Nat} (h : Box w b [z0, z1, z2, z3, z4, z5, z6] t) (m : Cells6 w c j x0 x1 x2 x3 x4 x5) (l : Cells6 w d k y0 y1 y2 y3 y4 y5) (r : Box w e [r0, r1] u) :
    w.cell? ⟨b, 1, none⟩ = some z1 ∧ w.cell? ⟨b, 2, none⟩ = some z2 ∧ w.cell? ⟨b, 3, none⟩ = some z3 ∧ w.cell? ⟨c, j, none⟩ = some x0 ∧ w.cell? ⟨c, j + 1, none⟩ = some x1 ∧ w.cell? ⟨c, j + 2, none⟩ = some x2 ∧
    w.cell? ⟨d, k, none⟩ = some y0 ∧ w.cell? ⟨d, k + 1, none⟩ = some y1 ∧ w.cell? ⟨d, k + 2, none⟩ = some y2 ∧ w.cell? ⟨e, 0, none⟩ = some r0 ∧ w.cell? ⟨e, 1, none⟩ = some r1 :=
  ⟨h.cell 1, h.cell 2, h.cell 3, m.c0, m.c1, m.c2, l.c0, l.c1, l.c2, r.cell 0, r.cell 1⟩
theorem cells_b {e : Nat} (h : Box w b [z0, z1, z2, z3, z4, z5, z6] t) (m : Cells6 w c j x0 x1 x2 x3 x4 x5) (l : Cells6 w d k y0 y1 y2 y3 y4 y5) (r : Box w e [r0, r1] u) :
    w.cell? ⟨b, 4, none⟩ = some z4 ∧ w.cell? ⟨b, 5, none⟩ = some z5 ∧ w.cell? ⟨b, 6, none⟩ = some z6 ∧ w.cell? ⟨c, j + 3, none⟩ = some x3 ∧ w.cell? ⟨c, j + 4, none⟩ = some x4 ∧ w.cell? ⟨c, j + 5, none⟩ = some x5 ∧
    w.cell? ⟨d, k + 3, none⟩ = some y3 ∧ w.cell? ⟨d, k + 4, none⟩ = some y4 ∧ w.cell? ⟨d, k + 5, none⟩ = some y5 ∧ w.cell? ⟨e, 0, none⟩ = some r0 ∧ w.cell? ⟨e, 1, none⟩ = some r1 :=
  ⟨h.cell 4, h.cell 5, h.cell 6, m.c3, m.c4, m.c5, l.c3, l.c4, l.c5, r.cell 0, r.cell 1⟩
end
theorem box7_16 {w : World} {b : Nat} {t : TypeId} {v0 v1 v2 v3 v4 v5 v6 : Value} (h : Box w b [v0, v1, v2, v3, v4, v5, v6] t) :
    w.cell? ⟨b, 1, none⟩ = some v1 ∧ w.cell? ⟨b, 2, none⟩ = some v2 ∧ w.cell? ⟨b, 3, none⟩ = some v3 ∧ w.cell? ⟨b, 4, none⟩ = some v4 ∧ w.cell? ⟨b, 5, none⟩ = some v5 ∧ w.cell? ⟨b, 6, none⟩ = some v6 := ⟨h.cell 1, h.cell 2, h.cell 3, h.cell 4, h.cell 5, h.cell 6⟩
end Gal
end
section
set_option linter.unusedVariables false
set_option linter.unusedSimpArgs false
namespace Gal
open Go Go.RowKit
/-- the loop's own two objects: its record, and what it has put off -/
def Book (k : Nat) (r : Loop) (W : World) : Prop := W.heap[k + 1]? = some (.loop r) ∧ W.heap[k]? = some (.deferred (some []))
theorem Book.grown {k : Nat} {r : Loop} {A B : World} {row : Option Nat} (h : Book k r A) (hg : A.grownBy B row) (hr : ∀ j, row = some j → ∃ o : Obj, A.heap[j]? = some o ∧ o.isWalk = true) : Book k r B :=
  ⟨(grownBy_keeps hg hr h.1 rfl).trans h.1, (grownBy_keeps hg hr h.2 rfl).trans h.2⟩
theorem Book.put {k : Nat} {r : Loop} {W : World} (h : Book k r W) (r' : Loop) : Book k r' (W.putObj (k + 1) (.loop r')) :=
  ⟨World.putObj_heap_same (Array.getElem?_eq_some_iff.1 h.1).1, (World.putObj_heap_other (by omega)).trans h.2⟩
theorem Book.kept {k : Nat} {r : Loop} {A B : World} (h : Book k r A) (hk : KeepsFrom k A B) : Book k r B := ⟨hk.same _ _ (by omega) h.1 rfl, hk.same _ _ (Nat.le_refl _) h.2 rfl⟩
/-- how a round's body may be left: it goes on, or it returns -/
def roundEnds {α : Type} (B : Nat) (Kp : World → World → Prop) (I Ix : List α → World → Prop) (xs : List α) (W : World) : Exit → Act → World → Prop
  | .normal, _, W' => KeepsFrom B W W' ∧ Kp W W' ∧ I xs W'
  | .ret, _, W' => KeepsFrom B W W' ∧ Ix xs W'
  | _, _, _ => False
section
variable {F : Fence} {n : Nat} {P : Program}
theorem wpIn_range_boxed {α : Type} {g : Operand} {ps : Array Tmp} {assign body : Code} {Q : Exit → Act → World → Prop} {a : Act} {w : World}
    (hro : F.round = none) (h1 : 1 ≤ n) {gf : Nat} {lb : Array Value} (hg : a.eval g = .func (.func gf) #[] lb) (hFg : F.fn gf) (eg : ∀ args w, (callFunc gf args).run P w = .ok (.enter gf args) w)
    {encs : α → Array Value} {Kp : World → World → Prop} {S Sp : List α → Prop} {N : Nat} {w0 : World} (hseq : SeqStopsK F (n - 1) P gf lb encs Kp S Sp N w0)
    (hKt : ∀ {A B C : World}, Kp A B → Kp B C → Kp A C) (hKb : ∀ (W : World) (l : Nat) (o o' : Obj), w.heap.size ≤ l → W.heap[l]? = some o → o.isCells = false → o.isWalk = false → Kp W (W.putObj l o')) (hb0 : Below w0.heap.size w0 w) (hps : ∀ x, (encs x).size = ps.size)
    (I Ix : List α → World → Prop) (IA : α → Act → List α → World → Prop) (hI : OwnFrom w.heap.size I) (hIx : OwnFrom w.heap.size Ix) (hIA : ∀ x b, OwnFrom w.heap.size (IA x b)) (h0 : I [] w)
    (hassign : ∀ (l : Nat) (pre : List α) (x : α) (W : World), I pre W → pre.length < N →
      assign.wpIn (F.inRound l) (n - 1 - 1) P (Exit.then (fun b W' => KeepsFrom w.heap.size W W' ∧ Kp W W' ∧ IA x b pre W') (fun _ _ _ => False)) { tmps := (ps.zip (encs x)).foldl (fun t (p, v) => t.setIfInBounds p v) a.tmps, defers := [] } W)
    (hbody : ∀ (l : Nat) (pre : List α) (x : α) (b : Act) (W : World), IA x b pre W → pre.length < N → body.wpIn (F.inRound l) (n - 1 - 1) P (roundEnds w.heap.size Kp I Ix (pre ++ [x]) W) b W)
    (hdone : ∀ (D : Nat) (xs : List α) (W : World), w.heap.size ≤ D → S xs → I xs W → W.heap[D]? = some (.deferred (some [])) → Q .normal { a with defers := { target := .collected D, args := #[] } :: a.defers } W)
    (hstop : ∀ (D : Nat) (pre : List α) (W : World), w.heap.size ≤ D → Sp pre → Ix pre W → W.heap[D]? = some (.deferred (some [])) → Code.ret.wpIn F n P Q { a with defers := { target := .collected D, args := #[] } :: a.defers } W) :
    (Code.rangeFunc g ps assign body).wpIn F n P Q a w := by
  refine wpIn_rangeFunc fun fn hfn => ?_
  rw [hro]
  obtain ⟨rc, hrc⟩ : ∃ rc : LoopState → Option Code → Loop, rc = fun st pe => { state := st, pending := pe, fn, tmps := a.tmps, params := ps, assign, body, defers := w.heap.size } := ⟨_, rfl⟩
  obtain ⟨W1, hW1⟩ : ∃ W1, (w.alloc (.deferred (some []))).alloc (.loop (rc .ready none)) = W1 := ⟨_, rfl⟩
  have hz1 : W1.heap.size = w.heap.size + 1 + 1 := by rw [← hW1]; simp
  have bk1 : Book w.heap.size (rc .ready none) W1 := by
    rw [← hW1]
    refine ⟨?_, (Below.heap_alloc _ _ _ (by simp)).trans (World.alloc_heap_new w _)⟩
    have := World.alloc_heap_new (w.alloc (.deferred (some []))) (.loop (rc .ready none))
    rwa [World.size_alloc] at this
  have i1 : I [] W1 := by rw [← hW1]; exact hI.alloc _ (hI.alloc _ h0)
  have b1 : Below w0.heap.size w0 W1 := by rw [← hW1]; exact hb0.trans ((((Below.refl _ w).alloc (Nat.le_refl _) _).alloc (by simp) _).mono hb0.size)
  refine ⟨w.heap.size + 1, [{ target := .collected w.heap.size, args := #[] }], W1, { target := .fn (.func gf) lb, args := #[.func (.yield (w.heap.size + 1)) #[] #[]] }, W1, gf, #[.func (.yield (w.heap.size + 1)) #[] #[]] ++ lb, W1, ?_, ?_, ?_, ?_, fun _ => h1, ?_⟩
  · rw [← hW1, hrc]; exact run_enterLoop_outer _ _ _ _ _
  · simp only [resolve, hg]; simp [go_sem]
  · intro f' hf'; simp [Target.leads] at hf'; subst hf'; exact hFg
  · simp [invoke, go_sem, eg]
  have far : ∀ {A : World} {row : Option Nat}, (∀ r, row = some r → W1.heap.size ≤ r ∧ ∃ o : Obj, A.heap[r]? = some o ∧ o.isWalk = true) → ∀ r, row = some r → w.heap.size ≤ r ∧ ∃ o : Obj, A.heap[r]? = some o ∧ o.isCells = false := fun hr r e => by
    obtain ⟨hB, o, ho, hw⟩ := hr r e
    exact ⟨by omega, o, ho, Obj.not_cells_of_walk hw⟩
  refine (hseq (w.heap.size + 1) (fun pre W => I pre W ∧ Book w.heap.size (rc .ready none) W) (fun pre W => Ix pre W ∧ Book w.heap.size (rc .done (some .ret)) W) W1 b1
    (fun s A B row hs hg' hr => ⟨hI s A B row hs.1 hg' (far hr), hs.2.grown hg' (fun r e => (hr r e).2)⟩)
    (fun s A B row hs hg' hr => ⟨hIx s A B row hs.1 hg' (far hr), hs.2.grown hg' (fun r e => (hr r e).2)⟩) ?_ ⟨i1, bk1⟩).mono ?_
  · rintro pre x W ⟨hi, bk⟩ hlen
    have hy := run_yield (P := P) (args := encs x) bk.1 (by rw [hrc]; exact hps x)
    rw [hrc] at hy
    refine ⟨fn, _, assign, body, hy, roundIn_of_wpIn hfn (wpIn_mono (hassign _ pre x W hi hlen) ?_)⟩
    rintro e b W' hp
    cases e with
    | normal =>
      obtain ⟨k1, p1, ia⟩ := hp
      have bk' := bk.kept k1
      refine ⟨_, run_beginRound bk'.1 (by rw [hrc]), ?_⟩
      have bk2 := bk'.put { rc .ready none with state := .busy }
      refine wpIn_mono (hbody _ pre x b _ ((hIA x b).putObj _ ia (by omega) bk'.1 rfl) hlen) ?_
      have p2 : Kp W' _ := hKb W' (w.heap.size + 1) _ (.loop { rc .ready none with state := .busy }) (by omega) bk'.1 rfl rfl
      have fin : ∀ (jump : Option Code) (W3 : World), Book w.heap.size { rc .ready none with state := .busy } W3 →
          (Instr.endRound (w.heap.size + 1) jump).run P W3 = .ok (.bool jump.isNone) (W3.putObj (w.heap.size + 1) (.loop (rc (if jump.isNone then .ready else .done) jump))) := fun jump W3 b3 => by
        have := run_endRound (P := P) jump b3.1
        rw [hrc] at this ⊢
        exact this
      rintro e3 a3 W3 hq
      cases e3 with
      | normal =>
        obtain ⟨k3, p3, i3⟩ := hq
        have b3 := bk2.kept k3
        exact ⟨_, _, fin none W3 b3, .inl ⟨rfl, ⟨hI.putObj _ i3 (by omega) b3.1 rfl, b3.put _⟩, hKt p1 (hKt p2 (hKt p3 (hKb _ _ _ _ (by omega) b3.1 rfl rfl)))⟩⟩
      | ret =>
        obtain ⟨k3, i3⟩ := hq
        have b3 := bk2.kept k3
        exact ⟨_, _, fin (some .ret) W3 b3, .inr ⟨rfl, hIx.putObj _ i3 (by omega) b3.1 rfl, b3.put _⟩⟩
      | _ => exact hq.elim
    | _ => exact hp.elim
  · rintro e W2 ⟨⟨v, rfl⟩, (⟨xs, hS, hi, bk⟩ | ⟨pre, hSp, hi, bk⟩)⟩
    · have hr := run_endLoop (P := P) bk.1 (by rw [hrc]; simp)
      rw [hrc] at hr
      exact ⟨none, _, hr, hdone _ xs _ (Nat.le_refl _) hS (hI.putObj _ hi (by omega) bk.1 rfl) ((World.putObj_heap_other (by omega)).trans bk.2)⟩
    · have hr := run_endLoop (P := P) bk.1 (by rw [hrc]; simp)
      rw [hrc] at hr
      exact ⟨some .ret, _, hr, hstop _ pre _ (Nat.le_refl _) hSp (hIx.putObj _ hi (by omega) bk.1 rfl) ((World.putObj_heap_other (by omega)).trans bk.2)⟩
end
end Gal
end
section
set_option linter.unusedVariables false
set_option linter.unusedSimpArgs false
namespace Gal
open Go
section
variable {n l : Nat} {P : Program} {ops : Array Oper} {Q : Exit → Act → World → Prop}
theorem rowsIn_round {row : String} {args : Array Value} {w : World} {R : Value → World → Prop} (h : Rows P row args w R) : RowsIn (Fence.wide.inRound l) n P row args w R := fun c cs _ => by
  obtain ⟨v, w', r, s⟩ := h c cs
  exact ⟨v, w', r, stepsIn_wide.2 s⟩
theorem oper_round {o : Oper} {a : Act} {w : World} {K : Act → World → Prop} (hd : ∀ c, o.op ≠ .defer c) (h : o.wp P a w K Q) : o.wpIn (Fence.wide.inRound l) n P a w K Q := by
  refine ⟨fun f _ => trivial, ?_⟩
  rw [Oper.semAt_eq _ _ _ hd]
  unfold Oper.wp at h
  generalize (execOp a.eval o).run P w = r at h ⊢
  cases r with
  | ok nx w' =>
    cases nx with
    | enter f args =>
      refine ⟨fun hh => by simp [Fence.wide, Fence.inRound] at hh, CallsIn.inRound l (callsIn_wide.2 (h.mono ?_))⟩
      intro e w'' he
      cases e <;> exact he
    | row row args => exact ⟨fun hh => by simp [Fence.wide, Fence.inRound] at hh, rowsIn_round h⟩
    | value v => exact h
    | skip => exact h
    | defer d => exact h
    | _ => exact h.elim
  | halt hl w' =>
    cases hl <;> first | exact h | exact h.elim
theorem wpAny_round (hd : ∀ (j : Nat) (o : Oper) c, ops[j]? = some o → o.op ≠ .defer c) (hQ : ¬ LetsOut Q) (md : Region.Mode) :
    ∀ (fuel : Nat) (listed : Array Bool) (a : Act) (w : World), wpAny P md ops Q fuel listed a w → wpAnyIn (Fence.wide.inRound l) n P md ops Q fuel listed a w
  | 0, _, _, _, h => h
  | fuel + 1, listed, a, w, h => ⟨h.1, fun i hi => by
    have hs := h.2 i hi
    unfold wpOp at hs
    unfold wpOpIn
    cases ho : ops[i]? with
    | none =>
      rw [ho] at hs
      exact wpAny_round hd hQ md fuel _ a w hs
    | some o =>
      rw [ho] at hs
      dsimp only at hs ⊢
      by_cases hw : Region.wanted o (yielded ops a.tmps) = true
      · rw [if_pos hw] at hs ⊢
        rcases hs with hs | hs
        · exact oper_round (hd i o · ho) (Oper.wp_mono (fun a w => wpAny_round hd hQ md fuel _ a w) hs)
        · exact absurd hs.2 hQ
      · rw [if_neg hw] at hs ⊢
        exact ⟨fun f _ => trivial, wpAny_round hd hQ md fuel _ _ w hs⟩⟩
/-- the beginning: as 'wp_region_held_drew', in a round -/
theorem wpIn_region_held {id : Nat} {a : Act} {w : World} {S : World → Prop} (hm : P.follows .mixedOrders = true) (hd : ops.all (fun o => match o.op with | .defer _ => false | _ => true) = true) (hQ : ¬ LetsOut Q) (hS : S w.drew)
    (h : S w.drew → wpAnyH P .any ops Q S ops.size (Array.replicate ops.size false) a w.drew) : (Code.region id ops true).wpIn (Fence.wide.inRound l) n P Q a w :=
  wpIn_region_any hm (wpAny_round (fun j o c ho e => by
    have h1 := Array.all_eq_true'.1 hd o (Array.mem_of_getElem? ho)
    rw [e] at h1
    cases h1) hQ _ _ _ _ _ (wpAny_of_held _ _ _ _ (h hS)))
def nth {α : Type} : List α → Nat → Option α
  | [], _ => none
  | x :: _, 0 => some x
  | _ :: l, k + 1 => nth l k
theorem nth_get {α : Type} : ∀ (l : List α) (k : Nat), l[k]? = nth l k
  | [], k => by simp [nth]
  | x :: l, 0 => by simp [nth]
  | x :: l, k + 1 => by simp only [List.getElem?_cons_succ, nth]; exact nth_get l k
theorem held_take {L : List Oper} {S : World → Prop} {md : Region.Mode} {i : Nat} {oi : Oper} {v : Value} {fuel : Nat} {listed : Array Bool} {a : Act} {w : World} (hi : nth L i = some oi)
    (hs : Region.noSelect L.toArray = true) (hf : Region.free md L.toArray listed i = true) (hr : (Region.ready md L.toArray listed).contains i = true)
    (hQ : ∀ c a w, Q (.panic c) (a.put oi.dst v) w → Q (.panic c) a w) (hy : YieldsIf P L.toArray S oi v a) (hS : S w)
    (h : wpAnyH P md L.toArray Q S fuel (listed.setIfInBounds i true) (a.put oi.dst v) w) : wpAnyH P md L.toArray Q S (fuel + 1) listed a w :=
  wpAnyH_take (by rw [List.getElem?_toArray, nth_get]; exact hi) hs hf hr hQ hy hS h
theorem held_cons {L : List Oper} {S : World → Prop} {md : Region.Mode} {fuel : Nat} {listed : Array Bool} {a : Act} {w : World} {i : Nat} {o : Oper} {rs : List Nat} (ho : nth L i = some o)
    (h : ∀ K' : Act → World → Prop, Shut (∀ a w, S w → (S w → wpAnyH P md L.toArray Q S fuel (listed.setIfInBounds i true) a w) → K' a w) → if Region.wanted o (yielded L.toArray a.tmps) = true then Oper.wp P o a w K' Q else K' (a.put o.dst undef) w)
    (hs : AllReadyH P md L.toArray Q S fuel listed a w rs) : AllReadyH P md L.toArray Q S fuel listed a w (i :: rs) :=
  AllReadyH.cons (by rw [List.getElem?_toArray, nth_get]; exact ho) h hs
end
end Gal
end
