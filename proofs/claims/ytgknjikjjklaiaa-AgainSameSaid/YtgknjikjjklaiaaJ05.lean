/- Texts joined: Open, Opens. -/
import Derived.Test.YtgknjikjjklaiaaJ04
import Derived.Test.YtgknjikjjklaiaaProg
import Derived.ProofKit
import Derived.OpenShut
import Derived.Lib.SmallJoins
import Derived.Deep.Slices
import Derived.Deep.Strs
section
set_option linter.unusedVariables false
set_option linter.unusedSimpArgs false
namespace Go.Proofs.Ytgknjikjjklaiaa
open Go.ChangeShapes Go.WideShapes Go.ChangeAt Go.RowKit Go.Joins Gal
theorem cells_mat : Try.prog.cellsOf 25 = 3 := by kernel_rfl
theorem cells_int : Try.prog.cellsOf 3 = 1 := by kernel_rfl
theorem open_ints_at {H : Type} {enc : TypeId × Value → H} {w : World} {base : Nat} {spare : Nat → Bool} {held : Bool} {fuel : Nat} {v : Value} {y : DataW H × List MemPlace}
  (h : DataW.trod enc Try.prog w base spare held fuel 23 [v] = some y) : ∃ a n cap b off xs, v = .slice a n cap ∧ IntsAt w a n cap b off xs := by
 rcases open_ints Try.underlying23 Try.underlying3 cells_int h with ⟨hcs, _⟩ | ⟨x, l, c, zs, hcs, _, hl, hm, hz, _, hcell, hwz⟩
 ·simp at hcs
  subst hcs
  exact ⟨none, 0, 0, 0, 0, [], rfl, rfl, Nat.le_refl _, Nat.zero_le _, fun h => absurd h (Nat.lt_irrefl _), fun h => absurd h (Nat.lt_irrefl _), fun i hi => absurd hi (Nat.not_lt_zero _)⟩
 ·simp at hcs
  subst hcs
  obtain ⟨b, off, spot⟩ := x
  have hlz : l ≤ zs.length := by rw [hz]; split <;> omega
  have hp : 0 < l → spot = none := fun h0 => by
   have := hcell 0 (by omega)
   simpa [Addr.add] using World.cell?_spot this
  refine ⟨_, l, c, b, off, zs.take l, rfl, by rw [List.length_take]; omega, hl, hm, fun h0 => by rw [hp h0], fun h0 => ?_, fun i hi => ?_⟩
  ·have h1 := hcell 0 (by omega)
   have h2 := World.block_lt_of_cell? w _ h1
   simpa [Addr.add] using h2
  ·have h1 := hcell i (by omega)
   have h2 := hp (by omega)
   subst h2
   have hadd : (⟨b, off, none⟩ : Addr).add i = ⟨b, off + i, none⟩ := by unfold Addr.add; split <;> simp_all
   rw [hadd] at h1
   rw [h1]
   unfold ix
   rw [List.getElem?_take_of_lt hi, List.getD_eq_getElem?_getD]
set_option maxRecDepth 100000 in
theorem open_mat {H : Type} {enc : TypeId × Value → H} {w : World} {base b0 : Nat} {r : Reach} {spare : Nat → Bool} {held : Bool} {v : Value} {d : DataW H} {p : List MemPlace}
  (hv : Value.okWide Try.prog w r b0 25 v) (h : DataW.Trod enc Try.prog w base spare held 25 v d p) : ∃ m : Mat, MatAt w v m := by
 obtain ⟨v0, v1, v2, y0, y1, y2, n, rfl, _, _, h0, h1, h2⟩ := open_agg3 Try.underlying25 (by kernel_rfl) cells_mat hv h
 obtain ⟨x0, e0, _, _⟩ := DataW.trod_int Try.underlying3 h0
 obtain ⟨x1, e1, _, _⟩ := DataW.trod_int Try.underlying3 h1
 obtain ⟨a, n2, cap, b, off, xs, rfl, hi⟩ := open_ints_at h2
 simp at e0 e1
 subst e0 e1
 exact ⟨⟨x0, x1, xs⟩, a, n2, cap, b, off, rfl, hi⟩
end Go.Proofs.Ytgknjikjjklaiaa
end
section
set_option linter.unusedVariables false
set_option linter.unusedSimpArgs false
set_option linter.unusedSectionVars false
namespace Gal
open Go Go.RowKit Go.ChangeShapes Go.WideShapes Go.Deep
theorem list_of {α : Type} {P : Nat → α → Prop} : ∀ n : Nat, (∀ i, i < n → ∃ x, P i x) → ∃ xs : List α, xs.length = n ∧ ∀ i x, xs[i]? = some x → P i x := by
 intro n
 induction n with
 | zero => exact fun _ => ⟨[], rfl, fun i x h => by cases h⟩
 | succ n ih =>
  intro h
  obtain ⟨xs, hl, hx⟩ := ih fun i hi => h i (by omega)
  obtain ⟨y, hy⟩ := h n (by omega)
  refine ⟨xs ++ [y], by simp [hl], fun i x hi => ?_⟩
  rcases Nat.lt_or_ge i xs.length with h1 | h1
  ·rw [List.getElem?_append_left h1] at hi
   exact hx i x hi
  ·rw [List.getElem?_append_right h1] at hi
   have h2 : i - xs.length = 0 := by
    rcases Nat.eq_zero_or_pos (i - xs.length) with h2 | h2
    ·exact h2
    ·rw [List.getElem?_eq_none (by simp; omega)] at hi; cases hi
   rw [h2] at hi
   simp at hi
   subst hi
   obtain rfl : i = n := by omega
   exact hy
section
variable {P : Program}
def Opens {α : Type} (P : Program) (f : Form α) (T : TypeId) : Prop :=
 P.cellsOf T = f.size ∧ ∀ (H : Type) (enc : TypeId × Value → H) (w : World) (base : Nat) (spare : Nat → Bool) (held : Bool) (fuel : Nat) (cs : List Value) (y : DataW H × List MemPlace),
  DataW.trod enc P w base spare held fuel T cs = some y → ∃ x, f.reads w anyB cs x
theorem Opens.int {T : TypeId} (hT : P.underlying T = some (.int .i64)) (hc : P.cellsOf T = 1) : Opens P Form.int T := ⟨hc, fun H enc w base spare held fuel cs y h => by
 obtain ⟨x, e, _, _⟩ := DataW.trod_int hT h
 exact ⟨x, e⟩⟩
theorem Opens.as {α β : Type} {f : Form α} {T : TypeId} (h : Opens P f T) (mk : α → β) : Opens P (f.as mk) T := ⟨h.1, fun H enc w base spare held fuel cs y hy => by
 obtain ⟨x, hx⟩ := h.2 H enc w base spare held fuel cs y hy
 exact ⟨mk x, x, hx, rfl⟩⟩
theorem Opens.three {α β γ : Type} {f : Form α} {g : Form β} {k : Form γ} {T : TypeId} {f0 f1 f2 : Field} (ht : P.underlying T = some (.struct #[f0, f1, f2])) (hf : Opens P f f0.type) (hg : Opens P g f1.type) (hk : Opens P k f2.type)
  (h0 : f0.offset = 0) (h1 : f1.offset = f.size) (h2 : f2.offset = f.size + g.size) (hc : P.cellsOf T = f.size + (g.size + k.size)) :
  Opens P (f.and (g.and k)) T := ⟨hc, fun H enc w base spare held fuel cs y hy => by
 obtain ⟨y0, y1, y2, n, _, hl, k0, k1, k2⟩ := trod_struct3 ht hy
 obtain ⟨x0, r0⟩ := hf.2 _ _ _ _ _ _ _ _ _ k0
 obtain ⟨x1, r1⟩ := hg.2 _ _ _ _ _ _ _ _ _ k1
 obtain ⟨x2, r2⟩ := hk.2 _ _ _ _ _ _ _ _ _ k2
 refine ⟨(x0, x1, x2), _, _, ?_, r0, _, _, rfl, r1, r2⟩
 rw [h0, h1, h2, hf.1, hg.1, hk.1, List.drop_zero, List.take_of_length_le (l := cs.drop (f.size + g.size)) (by rw [List.length_drop, hl, hc]; omega), ← List.drop_drop, List.take_append_drop, List.take_append_drop]⟩
theorem Opens.slice {α : Type} {f : Form α} {T E : TypeId} (hf : Opens P f E) (ht : P.underlying T = some (.slice E)) (hc : P.cellsOf T = 1) (hsz : 0 < f.size) : Opens P f.slice T := ⟨hc, fun H enc w base spare held fuel cs y hy => by
 rcases open_slice ht hy with ⟨rfl, _⟩ | ⟨a, len, cap, m, n, D, Pl, rfl, hb, hl, hm, hmm, rfl, hx⟩
 ·exact ⟨[], none, 0, 0, 0, 0, rfl, RowAt.nil f w anyB⟩
 ·have hlm : len ≤ m := by rw [hmm]; split <;> omega
  obtain ⟨b, off, spot⟩ := a
  have hcell0 : 0 < len → ∃ v, w.cell? ⟨b, off, none⟩ = some v ∧ spot = none := fun h0 => by
   obtain ⟨cs', h1, h2⟩ := hx 0 (by omega)
   obtain ⟨_, hlen, hcell⟩ := World.cells?_some h1
   rw [hf.1] at hcell hlen
   have hh := hcell 0 hsz
   rw [List.getElem?_eq_getElem (by omega)] at hh
   have hsp := World.cell?_spot hh
   simp [Addr.add] at hsp hh
   subst hsp
   exact ⟨_, hh, rfl⟩
  have hall : ∀ i, i < len → ∃ x, ∃ cs, f.reads w anyB cs x ∧ ∀ j, j < f.size → w.cell? ⟨b, off + i * f.size + j, none⟩ = cs[j]? := fun i hi => by
   obtain ⟨cs', h1, h2⟩ := hx i (by omega)
   obtain ⟨x, hr⟩ := hf.2 _ _ _ _ _ _ _ _ _ h2
   obtain ⟨_, hlen, hcell⟩ := World.cells?_some h1
   rw [hf.1] at hcell hlen
   obtain ⟨_, _, hsp⟩ := hcell0 (by omega)
   subst hsp
   refine ⟨x, cs', hr, fun j hj => ?_⟩
   rw [← hcell j hj, add_add]
   congr 1
   unfold Addr.add
   split
   ·rename_i h0
    simp only [Addr.mk.injEq, and_true, true_and]
    omega
   ·simp only [Addr.mk.injEq, and_true, true_and]
    omega
  obtain ⟨xs, hxl, hxs⟩ := list_of len hall
  refine ⟨xs, _, len, cap, b, off, rfl, hxl, hl, hm, fun h0 => ?_, fun h0 => ?_, fun _ => trivial, hxs⟩
  ·obtain ⟨v, _, rfl⟩ := hcell0 h0
   rfl
  ·obtain ⟨v, hv, _⟩ := hcell0 h0
   exact World.block_lt_of_cell? w _ hv⟩
theorem Opens.top_slice {α : Type} {f : Form α} {T E : TypeId} (hf : Opens P f E) (ht : P.underlying T = some (.slice E)) (hc : P.cellsOf T = 1) (hsz : 0 < f.size) {H : Type} {enc : TypeId × Value → H} {w : World} {base b0 : Nat} {r : Reach} {spare : Nat → Bool} {held : Bool} {v : Value} {d : DataW H} {p : List MemPlace}
  (hv : Value.okWide P w r b0 T v) (h : DataW.Trod enc P w base spare held T v d p) :
  ∃ a n cap b off xs, v = .slice a n cap ∧ RowAt f w anyB a n cap b off xs ∧ (n = 0 ∨ ∃ (D : Nat → DataW H) (sp : List (DataW H)), d = .slice ((List.range n).map D) sp) := by
 obtain ⟨a0, len0, cap0, rfl⟩ := okWide_slice ht hv
 obtain ⟨fuel, hy⟩ := h
 obtain ⟨xs, a, n, cap, b, off, e, hr⟩ := (hf.slice ht hc hsz).2 _ _ _ _ _ _ _ _ _ hy
 have e' : a0 = a ∧ len0 = n ∧ cap0 = cap := by simpa [Value.cells] using e
 obtain ⟨rfl, rfl, rfl⟩ := e'
 refine ⟨_, _, _, b, off, xs, rfl, hr, ?_⟩
 rcases open_slice ht hy with ⟨h0, _⟩ | ⟨a', len, cap', m, n', D, Pl, h0, _, _, _, _, hx, _⟩
 ·left
  have : a0 = none ∧ len0 = 0 ∧ cap0 = 0 := by simpa [Value.cells] using h0
  exact this.2.1
 ·right
  have : a0 = some a' ∧ len0 = len ∧ cap0 = cap' := by simpa [Value.cells] using h0
  obtain ⟨_, rfl, _⟩ := this
  simp only [Prod.mk.injEq] at hx
  exact ⟨D, _, hx.1⟩
end
end Gal
namespace Go.Proofs.Ytgknjikjjklaiaa
open Go.RowKit Gal
theorem opens_int : Opens Try.prog Form.int 3 := Opens.int Try.underlying3 cells_int
set_option maxRecDepth 100000 in
theorem opens_mat : Opens Try.prog Form.mat 25 := ⟨cells_mat, fun H enc w base spare held fuel cs y h => by
 have hI : Opens Try.prog (Form.int.and (Form.int.and Form.int.slice)) 25 :=
  Opens.three Try.underlying25 opens_int opens_int (Opens.slice opens_int Try.underlying23 (by kernel_rfl) (by decide)) (by kernel_rfl) (by kernel_rfl) (by kernel_rfl) cells_mat
 obtain ⟨⟨r, c, xs⟩, c0, c1, rfl, rfl, c2, c3, rfl, rfl, a, n, cap, b, off, rfl, hr⟩ := hI.2 _ _ _ _ _ _ _ _ _ h
 exact ⟨⟨r, c, xs⟩, a, n, cap, b, off, rfl, fun _ => trivial, hr.ints⟩⟩
end Go.Proofs.Ytgknjikjjklaiaa
end
