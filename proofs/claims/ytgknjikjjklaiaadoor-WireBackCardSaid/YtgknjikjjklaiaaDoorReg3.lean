/- 'append' of one element, as a step of a region that draws. Over any program. -/
import Derived.Test.YtgknjikjjklaiaaDoorByt
set_option linter.unusedVariables false
set_option linter.unusedSimpArgs false
set_option linter.unusedSectionVars false
namespace Gal
open Go Go.RowKit
theorem step_own {P : Program} {w : World} {α : Type} {ops : Array Oper} {o : Oper} {a : Act} {K : Act → World → Prop} {Q : Exit → Act → World → Prop} {E : Prop} (hgd : o.guard = none) (s x : Operand) (t : TypeId)
    (ho : o.op = .call { callee := .builtin .append, args := #[s, x], argTypes := #[t, t] })
    (f : Form α) (base : Nat) (F : Nat → Prop) (e : TypeId) (i : TypeInfo) (z : Value) (bytes : Nat) (ht : P.underlying t = some (.slice e)) (hi : P.info? e = some i) (hz : i.zero = some z)
    (hsize : i.size = f.size) (hby : i.bytes = bytes) (hzs : z.cells.size = f.size) (hsz : 0 < f.size)
    (v : Value) (xs : List α) (hs : a.eval s = v) (hown : OwnRow f e w base F v xs)
    (b c : Nat) (cs : List Value) (te : TypeId) (y : α) (hx : a.eval x = .slice (some ⟨b, 0, none⟩) 1 c) (hbox : Box w b cs te) (hr : f.reads w (fun b => F b ∧ v.ownBlock ≠ some b) cs y)
    (hbytes : (xs.length + 1) * bytes ≤ 140737488355328) (hlen : xs.length + 1 ≤ maxLen) (hbase : base ≤ w.heap.size) (H : Nat) (hH : w.heap.size = H)
    (h : ∀ g cap w', OwnRow f e w' base F (.slice (some ⟨g, 0, none⟩) (xs.length + 1) cap) (xs ++ [y]) → w.grownBy w' v.ownBlock → (v.ownBlock = some g ∨ g = H) → g < w'.heap.size → K (a.put o.dst (.slice (some ⟨g, 0, none⟩) (xs.length + 1) cap)) w') :
    if Region.wanted o (yielded ops a.tmps) = true then Oper.wp P o a w K Q else E := by
  rw [if_pos (by simp [Region.wanted, hgd])]
  exact wp_push s x t ho f base F e i z bytes ht hi hz hsize hby hzs hsz v xs hs hown b c cs te y hx hbox hr hbytes hlen hbase H hH h
end Gal
