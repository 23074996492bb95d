/- Texts joined: PPlan2. -/
import Derived.Test.YtchngeagnlngaaaJ42
section
set_option linter.unusedVariables false
set_option linter.unusedSimpArgs false
namespace Gal
abbrev PlanD := List (List ActD)
def px (p : PlanD) (s : Nat) : List ActD := p[s]?.getD []
theorem px_get {p : PlanD} {s : Nat} (h : s < p.length) : p[s]? = some (px p s) := by unfold px; rw [List.getElem?_eq_getElem h]; rfl
def rdy (p : PlanD) (nx : Nat → Nat) (s : Nat) (a : ActD) : Prop :=
 if a.1 = 1 then (s = 0 ∨ a ∈ (px p (s - 1)).take (nx (s - 1))) else ((1, a.2) ∈ (px p s).take (nx s) ∧ (s + 1 = p.length ∨ a ∈ (px p (s + 1)).take (nx (s + 1))))
instance (p : PlanD) (nx : Nat → Nat) (s : Nat) (a : ActD) : Decidable (rdy p nx s a) := by unfold rdy; exact inferInstance
def can (p : PlanD) (nx : Nat → Nat) (s : Nat) : Prop := nx s < (px p s).length ∧ rdy p nx s (ax (px p s) (nx s))
instance (p : PlanD) (nx : Nat → Nat) (s : Nat) : Decidable (can p nx s) := by unfold can; exact inferInstance
def nextS (p : PlanD) (nx : Nat → Nat) : Option Nat := (List.range p.length).find? fun s => decide (can p nx s)
def bump (nx : Nat → Nat) (s : Nat) : Nat → Nat := fun r => if r = s then nx s + 1 else nx r
def sim (p : PlanD) : Nat → (Nat → Nat) → Nat → Nat
 | 0, nx => nx
 | f + 1, nx => match nextS p nx with
  | none => nx
  | some s => sim p f (bump nx s)
def sumTo' (nx : Nat → Nat) : Nat → Nat
 | 0 => 0
 | s + 1 => sumTo' nx s + nx s
def ranOf (p : PlanD) (T : Nat) : Nat → Nat := sim p T fun _ => 0
def stageFault (M : Int) (p : PlanD) : Int := ((p.map (actsFault M)).find? fun e => decide (e ≠ 0)).getD 0
def doneAll (p : PlanD) (nx : Nat → Nat) : Prop := ∀ s, s < p.length → nx s = (px p s).length
instance (p : PlanD) (nx : Nat → Nat) : Decidable (doneAll p nx) := by unfold doneAll; exact inferInstance
def planBad (M : Int) (p : PlanD) : Prop := (M < 1 ∨ 12 < M) ∨ (p.length < 1 ∨ 6 < p.length)
instance (M : Int) (p : PlanD) : Decidable (planBad M p) := by unfold planBad; exact inferInstance
def planFault (M : Int) (p : PlanD) : Int :=
 if planBad M p then 1 else if stageFault M p ≠ 0 then stageFault M p else if doneAll p (ranOf p (2 * M.toNat * p.length)) then 0 else 6
section
variable {p : PlanD} {nx : Nat → Nat} {M : Int}
theorem nextS_some {s : Nat} (h1 : can p nx s) (hs : s < p.length) (h2 : ∀ r, r < s → ¬ can p nx r) : nextS p nx = some s := by
 unfold nextS
 rw [List.find?_range_eq_some]
 exact ⟨by simpa using h1, List.mem_range.2 hs, fun r hr => by simpa using h2 r hr⟩
theorem nextS_none (h : ∀ s, s < p.length → ¬ can p nx s) : nextS p nx = none := List.find?_eq_none.2 fun s hs => by simpa using h s (List.mem_range.1 hs)
theorem sim_step {f s : Nat} (h : nextS p nx = some s) : sim p (f + 1) nx = sim p f (bump nx s) := by rw [sim, h]
theorem sim_stop {f : Nat} (h : nextS p nx = none) : sim p f nx = nx := by
 cases f with
 | zero => rfl
 | succ f => rw [sim, h]
theorem sum_bump {s : Nat} : ∀ {n : Nat}, s < n → sumTo' (bump nx s) n = sumTo' nx n + 1
 | n + 1, h => by
  have hlow : ∀ {m : Nat}, m ≤ s → sumTo' (bump nx s) m = sumTo' nx m := fun {m} hm => by
   induction m with
   | zero => rfl
   | succ m ih =>
    rw [sumTo', sumTo', ih (by omega)]
    unfold bump
    rw [if_neg (by omega)]
  rcases Nat.lt_or_ge s n with h1 | h1
  ·rw [sumTo', sumTo', sum_bump h1]
   unfold bump
   rw [if_neg (by omega)]
   omega
  ·obtain rfl : s = n := by omega
   rw [sumTo', sumTo', hlow (Nat.le_refl _)]
   unfold bump
   rw [if_pos rfl]
   omega
theorem sum_le {c : Nat} : ∀ {n : Nat}, (∀ s, s < n → nx s ≤ c) → sumTo' nx n ≤ c * n
 | 0, _ => Nat.le_refl _
 | n + 1, h => by
  have h1 := sum_le (n := n) fun s hs => h s (by omega)
  have h2 := h n (by omega)
  rw [sumTo', Nat.mul_succ]
  omega
theorem sum_full {c : Nat} : ∀ {n : Nat}, (∀ s, s < n → nx s ≤ c) → (sumTo' nx n = c * n ↔ ∀ s, s < n → nx s = c)
 | 0, _ => ⟨fun _ s hs => absurd hs (Nat.not_lt_zero _), fun _ => rfl⟩
 | n + 1, h => by
  have h1 := sum_le (n := n) fun s hs => h s (by omega)
  have h2 := h n (by omega)
  have h3 := sum_full (n := n) fun s hs => h s (by omega)
  rw [sumTo', Nat.mul_succ]
  constructor
  ·intro h4 s hs
   have h5 := h3.1 (by omega)
   rcases Nat.lt_or_ge s n with h6 | h6
   ·exact h5 s h6
   ·obtain rfl : s = n := by omega
    omega
  ·intro h4
   have h5 := h3.2 fun s hs => h4 s (by omega)
   have := h4 n (by omega)
   omega
theorem sum_zero (n : Nat) : sumTo' (fun _ => 0) n = 0 := by
 induction n with
 | zero => rfl
 | succ n ih => rw [sumTo', ih]
theorem actsFault_ok {l : List ActD} (h : actsFault M l = 0) : okTo M l l.length ∧ l.Nodup ∧ (l.length : Int) = 2 * M ∧ ordTo l l.length := by
 unfold actsFault at h
 by_cases h1 : okTo M l l.length
 ·rw [if_neg (by simpa using h1)] at h
  by_cases h2 : l.Nodup
  ·rw [if_neg (by simpa using h2)] at h
   by_cases h3 : (l.length : Int) = 2 * M
   ·rw [if_neg (by simpa using h3)] at h
    by_cases h4 : ordTo l l.length
    ·exact ⟨h1, h2, h3, h4⟩
    ·rw [if_pos h4] at h; exact absurd h (by decide)
   ·rw [if_pos h3] at h; exact absurd h (by decide)
  ·rw [if_pos h2] at h; exact absurd h (by decide)
 ·rw [if_pos h1] at h; exact absurd h (by decide)
theorem stageFault_some {s : Nat} (hs : s < p.length) (h : actsFault M (px p s) ≠ 0) (h0 : ∀ r, r < s → actsFault M (px p r) = 0) : stageFault M p = actsFault M (px p s) := by
 unfold stageFault
 have h1 : (p.map (actsFault M))[s]? = some (actsFault M (px p s)) := by rw [List.getElem?_map, px_get hs]; rfl
 have hl : s < (p.map (actsFault M)).length := by simpa using hs
 have h2 : (p.map (actsFault M)).find? (fun e => decide (e ≠ 0)) = some (actsFault M (px p s)) := by
  rw [List.find?_eq_some_iff_getElem]
  rw [List.getElem?_eq_getElem hl] at h1
  simp only [Option.some.injEq] at h1
  refine ⟨by simpa using h, s, hl, h1, fun r hr => ?_⟩
  have h3 : (p.map (actsFault M))[r]? = some (actsFault M (px p r)) := by rw [List.getElem?_map, px_get (by omega)]; rfl
  rw [List.getElem?_eq_getElem (by omega)] at h3
  simp only [Option.some.injEq] at h3
  rw [h3, h0 r hr]
  rfl
 rw [h2]
 rfl
theorem stageFault_none (h : ∀ s, s < p.length → actsFault M (px p s) = 0) : stageFault M p = 0 := by
 unfold stageFault
 have : (p.map (actsFault M)).find? (fun e => decide (e ≠ 0)) = none := List.find?_eq_none.2 fun e he => by
  obtain ⟨l, hl, rfl⟩ := List.mem_map.1 he
  obtain ⟨s, hs, rfl⟩ := List.mem_iff_getElem.1 hl
  have h1 := h s hs
  have h2 := px_get hs
  rw [List.getElem?_eq_getElem hs] at h2
  simp only [Option.some.injEq] at h2
  rw [h2, h1]
  simp
 rw [this]
 rfl
theorem planFault_1 (h : planBad M p) : planFault M p = 1 := if_pos h
theorem planFault_first (h : ¬ planBad M p) (h1 : stageFault M p ≠ 0) : planFault M p = stageFault M p := by unfold planFault; rw [if_neg h, if_pos h1]
theorem planFault_0 (h : ¬ planBad M p) (h1 : stageFault M p = 0) (h2 : doneAll p (ranOf p (2 * M.toNat * p.length))) : planFault M p = 0 := by unfold planFault; rw [if_neg h, if_neg (by simpa using h1), if_pos h2]
theorem planFault_6 (h : ¬ planBad M p) (h1 : stageFault M p = 0) (h2 : ¬ doneAll p (ranOf p (2 * M.toNat * p.length))) : planFault M p = 6 := by unfold planFault; rw [if_neg h, if_neg (by simpa using h1), if_neg h2]
end
end Gal
end
