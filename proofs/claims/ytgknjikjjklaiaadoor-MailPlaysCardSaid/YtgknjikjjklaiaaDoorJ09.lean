/- Texts joined: AppRow. -/
import Derived.Test.YtgknjikjjklaiaaDoorJ03
section
set_option linter.unusedVariables false
set_option linter.unusedSimpArgs false
set_option linter.unusedSectionVars false
namespace Gal
open Go Go.RowKit
theorem flat_of_cells {α : Type} {f : Form α} {w : World} {F : Nat → Prop} {b : Nat} : ∀ (xs : List α) (off : Nat), (∀ (i : Nat) x, xs[i]? = some x → ∃ cs, f.reads w F cs x ∧ ∀ j, j < f.size → w.cell? ⟨b, off + i * f.size + j, none⟩ = cs[j]?) →
  ∃ cs : List Value, Flat f w F cs xs ∧ ∀ (j : Nat) u, cs[j]? = some u → w.cell? ⟨b, off + j, none⟩ = some u
 | [], off, _ => ⟨[], rfl, fun j u h => by simp at h⟩
 | x :: xs, off, h => by
  obtain ⟨c, hr, hc⟩ := h 0 x rfl
  obtain ⟨d, hd, hcd⟩ := flat_of_cells xs (off + f.size) (fun i y hy => by
   obtain ⟨c', h1, h2⟩ := h (i + 1) y hy
   exact ⟨c', h1, fun j hj => by rw [← h2 j hj, Nat.succ_mul, show off + f.size + i * f.size + j = off + (i * f.size + f.size) + j by omega]⟩)
  refine ⟨c ++ d, ⟨c, d, rfl, hr, hd⟩, fun j u hu => ?_⟩
  have hl := f.len hr
  rcases Nat.lt_or_ge j c.length with h1 | h1
  ·rw [List.getElem?_append_left h1] at hu
   have := hc j (by omega)
   rw [Nat.zero_mul, Nat.add_zero] at this
   exact this.trans hu
  ·rw [List.getElem?_append_right h1] at hu
   have := hcd _ _ hu
   rw [show off + f.size + (j - c.length) = off + j by omega] at this
   exact this
section
variable {P : Program} {w : World}
theorem wp_append_row {α : Type} {o : Oper} {a : Act} {K : Act → World → Prop} {Q : Exit → Act → World → Prop} (s x : Operand) (t : TypeId)
  (ho : o.op = .call { callee := .builtin .append, args := #[s, x], argTypes := #[t, t] })
  (f : Form α) (base : Nat) (e : TypeId) (i : TypeInfo) (z : Value) (bytes : Nat) (ht : P.underlying t = some (.slice e)) (hi : P.info? e = some i) (hz : i.zero = some z)
  (hsize : i.size = f.size) (hby : i.bytes = bytes) (hzs : z.cells.size = f.size) (hsz : 0 < f.size)
  (v : Value) (xs : List α) (hs : a.eval s = v) (hown : OwnRow f e w base (fun b => b < base) v xs)
  (G : Nat → Prop) (a' : Option Addr) (n' cap' b' off' : Nat) (ys : List α) (hx : a.eval x = .slice a' n' cap') (hy : RowAt f w G a' n' cap' b' off' ys) (hG : ∀ b, G b → b < w.heap.size → b < base)
  (hbytes : (xs.length + n') * bytes ≤ 140737488355328) (hlen : xs.length + n' ≤ maxLen) (hbase : base ≤ w.heap.size)
  (h : ∀ v' w', OwnRow f e w' base (fun b => b < base) v' (xs ++ ys) → w.grownBy w' v.ownBlock → K (a.put o.dst v') w') : o.wp P a w K Q := by
 obtain ⟨ds, hown1, hfl⟩ := hown.holds
 cases a' with
 | none =>
  have h0 : n' = 0 := by
   rcases Nat.eq_zero_or_pos n' with h0 | h0
   ·exact h0
   ·have := hy.ptr h0; cases this
  subst h0
  obtain rfl : ys = [] := List.eq_nil_of_length_eq_zero hy.len
  have hr := run_append_nil_src (P := P) base t o.type e i f.size ht hi hsize v xs.length _ hown1 cap'
  unfold Oper.wp execOp
  simp only [ho, resolve, invoke, builtin, Sem.run_bind, Sem.run_pure, Result.andThen_ok, List.map_toArray, List.map_cons, List.map_nil, hs, hx, hr]
  exact h v w (by rw [List.append_nil]; exact hown) ⟨rfl, rfl, rfl, Nat.le_refl _, fun _ _ _ => rfl⟩
 | some A =>
  obtain ⟨cs, hfc, hcell⟩ := flat_of_cells ys off' hy.cell
  have hcl : cs.length = n' * f.size := by rw [hfc.len, hy.len]
  refine wp_append_own w s x t ho base e i z f.size bytes ht hi hz hsize hby hzs hsz v xs.length ds hs hown1 A n' cap' cs hx hcl (fun j u hu => ?_) hfc.one hlen hbytes hbase fun v' w' h2 h3 _ => h v' w' ⟨_, by rw [List.length_append, hy.len]; exact h2, ?_⟩ h3
  ·have hj : 0 < n' := by
    rcases Nat.eq_zero_or_pos n' with h0 | h0
    ·rw [h0, Nat.zero_mul] at hcl
     rw [List.eq_nil_of_length_eq_zero hcl] at hu
     simp at hu
    ·exact h0
   have hp := hy.ptr hj
   cases hp
   have := hcell j u hu
   rw [← this]
   unfold Addr.add
   split
   ·rename_i h0
    rw [h0, Nat.add_zero]
   ·rfl
  ·have hw : ∀ b, b < base → b < w.heap.size → w'.heap[b]? = w.heap[b]? := fun b hb hl => h3.block b hl (fun e1 => by have := (hown1.lt b e1.symm).1; omega)
   have hq : ∀ b, b < base → b < w'.heap.size → b < base ∧ v'.ownBlock ≠ some b := fun b hb _ => ⟨hb, fun e1 => by have := (h2.lt b e1).1; omega⟩
   exact (((hfl.wide (fun b hb _ => hb.1)).append (hfc.wide hG)).kept hw).wide hq
theorem wpList_append_row {α : Type} {ops : Array Oper} {rest : List Oper} {o : Oper} {a : Act} {Q : Exit → Act → World → Prop} (hgd : o.guard = none) (s x : Operand) (t : TypeId)
  (ho : o.op = .call { callee := .builtin .append, args := #[s, x], argTypes := #[t, t] })
  (f : Form α) (base : Nat) (e : TypeId) (i : TypeInfo) (z : Value) (bytes : Nat) (ht : P.underlying t = some (.slice e)) (hi : P.info? e = some i) (hz : i.zero = some z)
  (hsize : i.size = f.size) (hby : i.bytes = bytes) (hzs : z.cells.size = f.size) (hsz : 0 < f.size)
  (v : Value) (xs : List α) (hs : a.eval s = v) (hown : OwnRow f e w base (fun b => b < base) v xs)
  (G : Nat → Prop) (a' : Option Addr) (n' cap' b' off' : Nat) (ys : List α) (hx : a.eval x = .slice a' n' cap') (hy : RowAt f w G a' n' cap' b' off' ys) (hG : ∀ b, G b → b < w.heap.size → b < base)
  (hbytes : (xs.length + n') * bytes ≤ 140737488355328) (hlen : xs.length + n' ≤ maxLen) (hbase : base ≤ w.heap.size)
  (h : ∀ v' w', OwnRow f e w' base (fun b => b < base) v' (xs ++ ys) → w.grownBy w' v.ownBlock → wpList P ops Q rest (a.put o.dst v') w') : wpList P ops Q (o :: rest) a w :=
 wpList_plain hgd fun _ hK => wp_append_row s x t ho f base e i z bytes ht hi hz hsize hby hzs hsz v xs hs hown G a' n' cap' b' off' ys hx hy hG hbytes hlen hbase fun v' w' h2 h3 => hK _ _ (h v' w' h2 h3)
end
theorem RowAt.drop {α : Type} {f : Form α} {w : World} {F : Nat → Prop} {b n cap off k : Nat} {xs : List α} (h : RowAt f w F (some ⟨b, off, none⟩) n cap b off xs) (hk : k < n) : RowAt f w F (some ⟨b, off + k * f.size, none⟩) (n - k) (cap - k) b (off + k * f.size) (xs.drop k) where
 len := by rw [List.length_drop, h.len]
 le := by have := h.le; omega
 maxc := by have := h.maxc; omega
 ptr := fun _ => rfl
 lt := fun _ => h.lt (by omega)
 blk := fun _ => h.blk (by omega)
 cell := fun i x hx => by
  rw [List.getElem?_drop] at hx
  obtain ⟨cs, h1, h2⟩ := h.cell _ _ hx
  exact ⟨cs, h1, fun j hj => by rw [← h2 j hj, Nat.add_mul, show off + k * f.size + i * f.size + j = off + (k * f.size + i * f.size) + j by omega]⟩
end Gal
end
