/- Two rows of the call's own, a layer and a speed at a time. Over any program. -/
import Derived.Test.YtgknjikjjklaiaaDoorFormsG
import Derived.Test.YtgknjikjjklaiaaDoorApartR
set_option linter.unusedVariables false
set_option linter.unusedSimpArgs false
set_option linter.unusedSectionVars false
namespace Gal
open Go Go.RowKit
/-- two rows that lie apart; E: the blocks in which what they name lies -/
structure TwoRows (E : Nat → Prop) (w : World) (base : Nat) (tL tG : TypeId) (vN : Value) (N : List Lay) (vV : Value) (V : List Grd) : Prop where
  own1 : OwnRow Form.lay tL w base E vN N
  own2 : OwnRow Form.grd tG w base E vV V
  ext : ∀ b, E b → b < w.heap.size ∧ base ≤ b ∧ vN.ownBlock ≠ some b ∧ vV.ownBlock ≠ some b
section
variable {E : Nat → Prop} {w w' : World} {base : Nat} {tL tG : TypeId} {vN vV : Value} {N N' : List Lay} {V V' : List Grd}
theorem TwoRows.nil (w : World) (base : Nat) (tL tG : TypeId) : TwoRows (fun _ => False) w base tL tG (.slice none 0 0) [] (.slice none 0 0) [] := ⟨OwnRow.nil _ _ _ _ _, OwnRow.nil _ _ _ _ _, fun _ h => h.elim⟩
theorem TwoRows.farS {S : Nat → Prop} (h : TwoRows E w base tL tG vN N vV V) (hf : Far S w w') (hS : ∀ k, S k → k < base) : TwoRows E w' base tL tG vN N vV V :=
  ⟨h.own1.farS hf (fun k hk hh => by have := (h.own1.base_le k hk).1; have := hS k hh; omega) (fun k hk _ _ hh => by have := (h.ext k hk).2.1; have := hS k hh; omega),
   h.own2.farS hf (fun k hk hh => by have := (h.own2.base_le k hk).1; have := hS k hh; omega) (fun k hk _ _ hh => by have := (h.ext k hk).2.1; have := hS k hh; omega),
   fun b hb => ⟨Nat.lt_of_lt_of_le (h.ext b hb).1 hf.size, (h.ext b hb).2⟩⟩
theorem TwoRows.farO {S : Nat → Prop} {m : Nat} (h : TwoRows E w base tL tG vN N vV V) (hf : Far S w w') (h1 : ∀ k, vN.ownBlock = some k → base ≤ k ∧ k < m) (h2 : ∀ k, vV.ownBlock = some k → base ≤ k ∧ k < m) (h3 : ∀ k, E k → k < m) (hS : ∀ k, S k → m ≤ k) : TwoRows E w' base tL tG vN N vV V :=
  ⟨h.own1.farS hf (fun k hk hh => by have := (h1 k hk).2; have := hS k hh; omega) (fun k hk _ _ hh => by have := h3 k hk; have := hS k hh; omega),
   h.own2.farS hf (fun k hk hh => by have := (h2 k hk).2; have := hS k hh; omega) (fun k hk _ _ hh => by have := h3 k hk; have := hS k hh; omega),
   fun b hb => ⟨Nat.lt_of_lt_of_le (h.ext b hb).1 hf.size, (h.ext b hb).2⟩⟩
theorem TwoRows.keep (h : TwoRows E w base tL tG vN N vV V) (hb : Below w.heap.size w w') : TwoRows E w' base tL tG vN N vV V := h.farS (S := fun _ => False) (Far.of_below hb) (fun _ hh => hh.elim)
theorem TwoRows.set (h : TwoRows E w base tL tG vN N vV V) {a : Addr} (ha : a.block < base) (u : Value) : TwoRows E (w.setCell a u) base tL tG vN N vV V :=
  h.farS (S := fun y => y = a.block) ((Far.refl (fun y => y = a.block) w).st (a := a) (fun _ => rfl) u) (fun k hk => by rw [hk]; exact ha)
/-- blocks newer than m: newer than both rows -/
theorem TwoRows.more {P : Nat → Prop} {m : Nat} (h : TwoRows E w base tL tG vN N vV V) (hm1 : ∀ b, vN.ownBlock = some b → b < m) (hm2 : ∀ b, vV.ownBlock = some b → b < m) (hbm : base ≤ m) (hP : ∀ b, P b → b < w.heap.size ∧ m ≤ b) : TwoRows (fun b => E b ∨ P b) w base tL tG vN N vV V :=
  ⟨h.own1.wide (fun b hb _ => Or.inl hb), h.own2.wide (fun b hb _ => Or.inl hb), fun b hb => by
    rcases hb with hb | hb
    · exact h.ext b hb
    · have h1 := hP b hb
      exact ⟨h1.1, by omega, fun e => by have := hm1 b e; omega, fun e => by have := hm2 b e; omega⟩⟩
/-- the first row has grown -/
theorem TwoRows.first {g m cap : Nat} (h : TwoRows E w base tL tG vN N vV V) (hne : tL ≠ tG) (ho : OwnRow Form.lay tL w' base E (.slice (some ⟨g, 0, none⟩) m cap) N') (hg : w.grownBy w' vN.ownBlock) (hl : vN.ownBlock = some g ∨ w.heap.size ≤ g) : TwoRows E w' base tL tG (.slice (some ⟨g, 0, none⟩) m cap) N' vV V := by
  have hap := h.own1.apart h.own2 hne
  refine ⟨ho, h.own2.grown hg (fun b hb e => hap b e.symm hb) (fun b hb _ e => (h.ext b hb).2.2.1 e.symm), fun b hb => ?_⟩
  obtain ⟨e1, e2, e3, e4⟩ := h.ext b hb
  refine ⟨Nat.lt_of_lt_of_le e1 hg.size, e2, fun e => ?_, e4⟩
  simp only [Value.ownBlock, Option.some.injEq] at e
  rcases hl with hl | hl
  · exact e3 (by rw [hl, e])
  · omega
theorem TwoRows.second {g m cap : Nat} (h : TwoRows E w base tL tG vN N vV V) (hne : tL ≠ tG) (ho : OwnRow Form.grd tG w' base E (.slice (some ⟨g, 0, none⟩) m cap) V') (hg : w.grownBy w' vV.ownBlock) (hl : vV.ownBlock = some g ∨ w.heap.size ≤ g) : TwoRows E w' base tL tG vN N (.slice (some ⟨g, 0, none⟩) m cap) V' := by
  have hap := h.own1.apart h.own2 hne
  refine ⟨h.own1.grown hg (fun b hb e => hap b hb e.symm) (fun b hb _ e => (h.ext b hb).2.2.2 e.symm), ho, fun b hb => ?_⟩
  obtain ⟨e1, e2, e3, e4⟩ := h.ext b hb
  refine ⟨Nat.lt_of_lt_of_le e1 hg.size, e2, e3, fun e => ?_⟩
  simp only [Value.ownBlock, Option.some.injEq] at e
  rcases hl with hl | hl
  · exact e4 (by rw [hl, e])
  · omega
end
end Gal
