/- Contracts of package clock: costs; the rows that Times makes. -/
import Derived.Test.YtjaepdkeldgikaaDoorClk2
import Derived.BigQuiet
import Derived.Deep.LoopGhost
import Derived.Deep.RegionLaw
set_option linter.unusedVariables false
set_option linter.unusedSimpArgs false
set_option linter.unusedSectionVars false
set_option maxRecDepth 100000
namespace Gal
open Go Go.RowKit
/-- 'append' of one element, as a step of a region that draws -/
theorem step_push {P : Program} {w : World} {α : Type} {ops : Array Oper} {o : Oper} {a : Act} {K : Act → World → Prop} {Q : Exit → Act → World → Prop} {E : Prop} (hgd : o.guard = none) (s x : Operand) (t : TypeId)
    (ho : o.op = .call { callee := .builtin .append, args := #[s, x], argTypes := #[t, t] })
    (f : Form α) (base : Nat) (F : Nat → Prop) (e : TypeId) (i : TypeInfo) (z : Value) (bytes : Nat) (ht : P.underlying t = some (.slice e)) (hi : P.info? e = some i) (hz : i.zero = some z)
    (hsize : i.size = f.size) (hby : i.bytes = bytes) (hzs : z.cells.size = f.size) (hsz : 0 < f.size)
    (v : Value) (xs : List α) (hs : a.eval s = v) (hown : OwnRow f e w base F v xs)
    (b c : Nat) (cs : List Value) (te : TypeId) (y : α) (hx : a.eval x = .slice (some ⟨b, 0, none⟩) 1 c) (hbox : Box w b cs te) (hr : f.reads w (fun b => F b ∧ v.ownBlock ≠ some b) cs y)
    (hbytes : (xs.length + 1) * bytes ≤ 140737488355328) (hlen : xs.length + 1 ≤ maxLen) (hbase : base ≤ w.heap.size) (H : Nat) (hH : w.heap.size = H)
    (h : ∀ g cap w', OwnRow f e w' base F (.slice (some ⟨g, 0, none⟩) (xs.length + 1) cap) (xs ++ [y]) → w.grownBy w' v.ownBlock → (v.ownBlock = some g ∨ g = H) → g < w'.heap.size → K (a.put o.dst (.slice (some ⟨g, 0, none⟩) (xs.length + 1) cap)) w') :
    if Region.wanted o (yielded ops a.tmps) = true then Oper.wp P o a w K Q else E := by
  rw [if_pos (by simp [Region.wanted, hgd])]
  exact wp_push s x t ho f base F e i z bytes ht hi hz hsize hby hzs hsz v xs hs hown b c cs te y hx hbox hr hbytes hlen hbase H hH h
end Gal
namespace Go.Proofs.YtjaepdkeldgikaaDoor
open Go.RowKit Gal Go.Maps
set_option maxHeartbeats 4000000
theorem clkCosts_any (a : Option Addr) (n k m : Nat) (w : World) (hn : n ≤ maxLen) (hm : m ≤ maxLen) : Calls Tryd.prog 52 #[.slice a n k, .int .i64 m] w fun e w' => e = .returned (if n = m then .nilIface else errV 2) ∧ w = w' := by
  unfold maxLen at hn hm
  by_cases h : n = m
  · have e1 : ((n : Int) != (m : Int)) = false := by simp [h]
    rw [if_pos h]
    clear h
    go_enter Tryd.func52, Tryd.ntmps52
    go_wp2
    go_ret
    exact ⟨rfl, rfl⟩
  · have e1 : ((n : Int) != (m : Int)) = true := by simp; omega
    rw [if_neg h]
    clear h
    go_enter Tryd.func52, Tryd.ntmps52
    go_wp2
    go_ret
    exact ⟨rfl, rfl⟩
/-- the rows that Times makes: block O holds their headers, each lies in a block of its own -/
structure OutIs (w : World) (O n : Nat) (vs : Nat → Value) (X : Nat → List SpanD) : Prop where
  box : Box w O ((List.range n).map vs) 63
  own : ∀ s, s < n → OwnRow Form.act 65 w (O + 1) noB (vs s) (X s)
  apart : ∀ s t, s < n → t < n → s ≠ t → ∀ g, (vs s).ownBlock = some g → (vs t).ownBlock ≠ some g
theorem OutIs.keep {w w' : World} {O n : Nat} {vs : Nat → Value} {X : Nat → List SpanD} (h : OutIs w O n vs X) (hb : Below w.heap.size w w') : OutIs w' O n vs X := ⟨h.box.keep hb, fun s hs => (h.own s hs).keep hb, h.apart⟩
theorem OutIs.drewN {w : World} {O n : Nat} {vs : Nat → Value} {X : Nat → List SpanD} (h : OutIs w O n vs X) (q : Nat) : OutIs (w.drewN q) O n vs X := h.keep ⟨rfl, rfl, rfl, Nat.le_refl _, fun _ _ => rfl⟩
theorem OutIs.farS {w w' : World} {O n : Nat} {S : Nat → Prop} {vs : Nat → Value} {X : Nat → List SpanD} (h : OutIs w O n vs X) (hf : Far S w w') (hS : ∀ k, S k → k < O) : OutIs w' O n vs X :=
  ⟨h.box.farS hf (fun hh => by have := hS _ hh; omega), fun s hs => (h.own s hs).farS hf (fun b hb hh => by have := hS _ hh; have := ((h.own s hs).base_le b hb).1; omega) (fun b hb _ _ hh => hb.elim), h.apart⟩
theorem OutIs.cell {w : World} {O n : Nat} {vs : Nat → Value} {X : Nat → List SpanD} (h : OutIs w O n vs X) {s : Nat} (hs : s < n) : w.cell? ⟨O, s, none⟩ = some (vs s) := by
  rw [h.box.cell, List.getElem?_map, List.getElem?_range hs]
  rfl
theorem OutIs.push {w w' : World} {O n : Nat} {vs : Nat → Value} {X : Nat → List SpanD} (h : OutIs w O n vs X) {s : Nat} (hs : s < n) {x : SpanD} {g m cap : Nat} (hown : OwnRow Form.act 65 w' (O + 1) noB (.slice (some ⟨g, 0, none⟩) m cap) (X s ++ [x])) (hg : w.grownBy w' (vs s).ownBlock) (hb : (vs s).ownBlock = some g ∨ g = w.heap.size) :
    OutIs (w'.setCell ⟨O, s, none⟩ (.slice (some ⟨g, 0, none⟩) m cap)) O n (fun r => if r = s then .slice (some ⟨g, 0, none⟩) m cap else vs r) (putRow X s x) := by
  have hgO : O + 1 ≤ g := (hown.base_le g rfl).1
  have hgrow : ∀ r, r < n → r ≠ s → OwnRow Form.act 65 w' (O + 1) noB (vs r) (X r) := fun r hr e => (h.own r hr).grown hg (fun b hb2 e2 => h.apart r s hr hs e b hb2 e2.symm) (fun b hb2 => hb2.elim)
  have hbw : Box w' O ((List.range n).map vs) 63 := h.box.grown hg (fun e => by have := ((h.own s hs).base_le O (by rw [← e])).1; omega)
  refine ⟨?_, fun r hr => ?_, fun r t hr ht e b hb1 => ?_⟩
  · have h1 := hbw.set s (.slice (some ⟨g, 0, none⟩) m cap)
    have h2 : ((List.range n).map vs).set s (.slice (some ⟨g, 0, none⟩) m cap) = (List.range n).map (fun r => if r = s then .slice (some ⟨g, 0, none⟩) m cap else vs r) := by
      apply List.ext_getElem?
      intro i
      rw [List.getElem?_set, List.getElem?_map, List.getElem?_map, List.length_map, List.length_range]
      rcases Nat.lt_or_ge i n with hi | hi
      · rw [List.getElem?_range hi]
        by_cases e : s = i
        · subst e; rw [if_pos rfl, if_pos hi]; simp
        · rw [if_neg e]; simp [show i ≠ s from fun h => e h.symm]
      · rw [List.getElem?_eq_none (by simpa using hi)]
        by_cases e : s = i
        · omega
        · rw [if_neg e]; rfl
    rw [h2] at h1
    exact h1
  · unfold putRow
    by_cases e : r = s
    · subst e
      rw [if_pos rfl, if_pos rfl]
      exact hown.set (fun e2 => by simp [Value.ownBlock] at e2; omega) (fun hh => hh.elim) _
    · rw [if_neg e, if_neg e]
      exact (hgrow r hr e).set (fun e2 => by have := ((h.own r hr).base_le _ e2).1; dsimp only at this; omega) (fun hh => hh.elim) _
  · have hfresh : ∀ r, r < n → (vs r).ownBlock ≠ some w.heap.size := fun r hr e2 => by have := ((h.own r hr).base_le _ e2).2; omega
    by_cases e1 : r = s
    · subst e1
      rw [if_pos rfl] at hb1
      rw [if_neg (fun e2 => e e2.symm)]
      simp only [Value.ownBlock, Option.some.injEq] at hb1
      subst hb1
      rcases hb with hb | hb
      · exact h.apart r t hr ht e g hb
      · rw [hb]; exact hfresh t ht
    · rw [if_neg e1] at hb1
      by_cases e2 : t = s
      · subst e2
        rw [if_pos rfl]
        intro e3
        simp only [Value.ownBlock, Option.some.injEq] at e3
        subst e3
        rcases hb with hb | hb
        · exact h.apart t r ht hr (fun e4 => e e4.symm) g hb hb1
        · rw [hb] at hb1; exact hfresh r hr hb1
      · rw [if_neg e2]; exact h.apart r t hr ht e b hb1
theorem OutIs.row {w : World} {O n : Nat} {vs : Nat → Value} {X : Nat → List SpanD} (h : OutIs w O n vs X) (hn : n ≤ maxLen) : RowAt Form.plan w anyB (some ⟨O, 0, none⟩) n n O 0 ((List.range n).map X) where
  len := by simp
  le := Nat.le_refl _
  maxc := hn
  ptr := fun _ => rfl
  lt := fun _ => h.box.lt
  blk := fun _ => trivial
  cell := fun i x hx => by
    have hi : i < n := by
      rcases Nat.lt_or_ge i n with h1 | h1
      · exact h1
      · rw [List.getElem?_eq_none (by simpa using h1)] at hx; cases hx
    rw [List.getElem?_map, List.getElem?_range hi] at hx
    simp only [Option.map_some, Option.some.injEq] at hx
    subst hx
    obtain ⟨a1, k1, b1, e, _, hr⟩ := (h.own i hi).row (G := anyB) (fun _ _ _ => trivial) (fun _ _ => trivial)
    refine ⟨[vs i], ⟨a1, _, k1, b1, 0, by rw [e], hr⟩, fun j hj => ?_⟩
    obtain rfl : j = 0 := by have : Form.plan.size = 1 := rfl; omega
    rw [show Form.plan.size = 1 from rfl, Nat.zero_add, Nat.mul_one, Nat.add_zero, h.cell hi]
    rfl
end Go.Proofs.YtjaepdkeldgikaaDoor
