/- Texts joined: SizedG. -/
import Derived.Test.YtgknjikjjklaiaaDoorJ12
section
set_option linter.unusedVariables false
set_option linter.unusedSimpArgs false
set_option linter.unusedSectionVars false
namespace Gal
open Go Go.RowKit Go.ChangeShapes Go.WideShapes Go.Deep
section
variable {P : Program}
def Within (l : List Nat) : Prop := l.all (· ≤ reachBytes) = true
theorem Within.left {l m : List Nat} (h : Within (l ++ m)) : Within l := by unfold Within at *; rw [List.all_append, Bool.and_eq_true] at h; exact h.1
theorem Within.right {l m : List Nat} (h : Within (l ++ m)) : Within m := by unfold Within at *; rw [List.all_append, Bool.and_eq_true] at h; exact h.2
theorem Within.head {n : Nat} {m : List Nat} (h : Within (n :: m)) : n ≤ reachBytes := by unfold Within at *; rw [List.all_cons, Bool.and_eq_true] at h; exact of_decide_eq_true h.1
theorem Within.tail {n : Nat} {m : List Nat} (h : Within (n :: m)) : Within m := by unfold Within at *; rw [List.all_cons, Bool.and_eq_true] at h; exact h.2
theorem Within.each {H : Type} {e : TypeId} : ∀ {l : List (DataW H)}, Within (DataW.weightsAll P e l) → ∀ d ∈ l, Within (d.weights P e)
 | [], _, d, hd => by cases hd
 | x :: l, h, d, hd => by
  rw [DataW.weightsAll] at h
  rcases List.mem_cons.1 hd with rfl | hd
  ·exact h.left
  ·exact Within.each h.right d hd
def OpensS {α : Type} (P : Program) (f : Form α) (B : α → Prop) (T : TypeId) : Prop :=
 P.cellsOf T = f.size ∧ ∀ (H : Type) (enc : TypeId × Value → H) (w : World) (base : Nat) (spare : Nat → Bool) (held : Bool) (fuel : Nat) (cs : List Value) (y : DataW H × List MemPlace),
  DataW.trod enc P w base spare held fuel T cs = some y → Within (y.1.weights P T) → ∃ x, f.reads w anyB cs x ∧ B x
theorem Opens.sized {α : Type} {f : Form α} {T : TypeId} (h : Opens P f T) : OpensS P f (fun _ => True) T := ⟨h.1, fun H enc w base spare held fuel cs y hy _ => by
 obtain ⟨x, hx⟩ := h.2 H enc w base spare held fuel cs y hy
 exact ⟨x, hx, trivial⟩⟩
theorem OpensS.as {α β : Type} {f : Form α} {B : α → Prop} {T : TypeId} (h : OpensS P f B T) (mk : α → β) : OpensS P (f.as mk) (fun y => ∃ x, B x ∧ mk x = y) T := ⟨h.1, fun H enc w base spare held fuel cs y hy hw => by
 obtain ⟨x, hx, hb⟩ := h.2 H enc w base spare held fuel cs y hy hw
 exact ⟨mk x, ⟨x, hx, rfl⟩, x, hb, rfl⟩⟩
theorem OpensS.wide {α : Type} {f : Form α} {B C : α → Prop} {T : TypeId} (h : OpensS P f B T) (hB : ∀ x, B x → C x) : OpensS P f C T := ⟨h.1, fun H enc w base spare held fuel cs y hy hw => by
 obtain ⟨x, hx, hb⟩ := h.2 H enc w base spare held fuel cs y hy hw
 exact ⟨x, hx, hB x hb⟩⟩
theorem OpensS.three {α β γ : Type} {f : Form α} {g : Form β} {k : Form γ} {A : α → Prop} {B : β → Prop} {C : γ → Prop} {T : TypeId} {f0 f1 f2 : Field} (ht : P.underlying T = some (.struct #[f0, f1, f2])) (hf : OpensS P f A f0.type) (hg : OpensS P g B f1.type) (hk : OpensS P k C f2.type)
  (h0 : f0.offset = 0) (h1 : f1.offset = f.size) (h2 : f2.offset = f.size + g.size) (hc : P.cellsOf T = f.size + (g.size + k.size)) :
  OpensS P (f.and (g.and k)) (fun x => A x.1 ∧ B x.2.1 ∧ C x.2.2) T := ⟨hc, fun H enc w base spare held fuel cs y hy hw => by
 obtain ⟨y0, y1, y2, n, rfl, hl, k0, k1, k2⟩ := trod_struct3 ht hy
 simp only [DataW.weights, ht, List.map_cons, List.map_nil, DataW.weightsEach] at hw
 obtain ⟨x0, r0, a0⟩ := hf.2 _ _ _ _ _ _ _ _ _ k0 hw.left
 obtain ⟨x1, r1, a1⟩ := hg.2 _ _ _ _ _ _ _ _ _ k1 hw.right.left
 obtain ⟨x2, r2, a2⟩ := hk.2 _ _ _ _ _ _ _ _ _ k2 hw.right.right.left
 refine ⟨(x0, x1, x2), ⟨_, _, ?_, r0, _, _, rfl, r1, r2⟩, a0, a1, a2⟩
 rw [h0, h1, h2, hf.1, hg.1, hk.1, List.drop_zero, List.take_of_length_le (l := cs.drop (f.size + g.size)) (by rw [List.length_drop, hl, hc]; omega), ← List.drop_drop, List.take_append_drop, List.take_append_drop]⟩
theorem OpensS.slice {α : Type} {f : Form α} {B : α → Prop} {T E : TypeId} {bytes : Nat} (hf : OpensS P f B E) (ht : P.underlying T = some (.slice E)) (hc : P.cellsOf T = 1) (hby : P.bytesOf E = bytes) (hsz : 0 < f.size) :
  OpensS P f.slice (fun xs => xs.length * bytes ≤ reachBytes ∧ ∀ (i : Nat) x, xs[i]? = some x → B x) T := ⟨hc, fun H enc w base spare held fuel cs y hy hw => by
 rcases open_slice ht hy with ⟨rfl, _⟩ | ⟨a, len, cap, m, n, D, Pl, rfl, hb, hl, hm, hmm, rfl, hx⟩
 ·exact ⟨[], ⟨none, 0, 0, 0, 0, rfl, RowAt.nil f w anyB⟩, by simp, fun i x h => by simp at h⟩
 ·simp only [DataW.weights, ht] at hw
  have hhead := hw.head
  rw [hby, List.length_map, List.length_range] at hhead
  have heach := hw.tail.left.each
  have hlm : len ≤ m := by rw [hmm]; split <;> omega
  obtain ⟨b, off, spot⟩ := a
  have hcell0 : 0 < len → ∃ v, w.cell? ⟨b, off, none⟩ = some v ∧ spot = none := fun h0 => by
   obtain ⟨cs', h1, h2⟩ := hx 0 (by omega)
   obtain ⟨_, hlen, hcell⟩ := World.cells?_some h1
   rw [hf.1] at hcell hlen
   have hh := hcell 0 hsz
   rw [List.getElem?_eq_getElem (by omega)] at hh
   have hsp := World.cell?_spot hh
   simp [Addr.add] at hsp hh
   subst hsp
   exact ⟨_, hh, rfl⟩
  have hall : ∀ i, i < len → ∃ x, (∃ cs, f.reads w anyB cs x ∧ ∀ j, j < f.size → w.cell? ⟨b, off + i * f.size + j, none⟩ = cs[j]?) ∧ B x := fun i hi => by
   obtain ⟨cs', h1, h2⟩ := hx i (by omega)
   obtain ⟨x, hr, hB⟩ := hf.2 _ _ _ _ _ _ _ _ _ h2 (heach _ (List.mem_map.2 ⟨i, List.mem_range.2 hi, rfl⟩))
   obtain ⟨_, hlen, hcell⟩ := World.cells?_some h1
   rw [hf.1] at hcell hlen
   obtain ⟨_, _, hsp⟩ := hcell0 (by omega)
   subst hsp
   refine ⟨x, ⟨cs', hr, fun j hj => ?_⟩, hB⟩
   rw [← hcell j hj, add_add]
   congr 1
   unfold Addr.add
   split
   ·rename_i h0
    simp only [Addr.mk.injEq, and_true, true_and]
    omega
   ·simp only [Addr.mk.injEq, and_true, true_and]
    omega
  obtain ⟨xs, hxl, hxs⟩ := list_of len hall
  refine ⟨xs, ⟨_, len, cap, b, off, rfl, hxl, hl, hm, fun h0 => ?_, fun h0 => ?_, fun _ => trivial, fun i x h => (hxs i x h).1⟩, ?_, fun i x h => (hxs i x h).2⟩
  ·obtain ⟨v, _, rfl⟩ := hcell0 h0
   rfl
  ·obtain ⟨v, hv, _⟩ := hcell0 h0
   exact World.block_lt_of_cell? w _ hv
  ·rw [hxl]
   exact Nat.le_trans (Nat.mul_le_mul_right bytes (Nat.le_add_right _ _)) hhead⟩
theorem OpensS.top_slice {α : Type} {f : Form α} {B : α → Prop} {T E : TypeId} {bytes : Nat} (hf : OpensS P f B E) (ht : P.underlying T = some (.slice E)) (hc : P.cellsOf T = 1) (hby : P.bytesOf E = bytes) (hsz : 0 < f.size) {H : Type} {enc : TypeId × Value → H} {w : World} {base b0 : Nat} {r : Reach} {spare : Nat → Bool} {held : Bool} {v : Value} {d : DataW H} {p : List MemPlace}
  (hv : Value.okWide P w r b0 T v) (h : DataW.Trod enc P w base spare held T v d p) (hs : Within (d.weights P T)) :
  ∃ xs : List α, (∃ a n cap b off, v = .slice a n cap ∧ RowAt f w anyB a n cap b off xs) ∧ xs.length * bytes ≤ reachBytes ∧ ∀ (i : Nat) x, xs[i]? = some x → B x := by
 obtain ⟨a0, len0, cap0, rfl⟩ := okWide_slice ht hv
 obtain ⟨fuel, hy⟩ := h
 obtain ⟨xs, ⟨a, n, cap, b, off, e, hr⟩, h1, h2⟩ := (hf.slice ht hc hby hsz).2 _ _ _ _ _ _ _ _ _ hy hs
 have e' : a0 = a ∧ len0 = n ∧ cap0 = cap := by simpa [Value.cells] using e
 obtain ⟨rfl, rfl, rfl⟩ := e'
 exact ⟨xs, ⟨_, _, _, b, off, rfl, hr⟩, h1, h2⟩
end
end Gal
end
