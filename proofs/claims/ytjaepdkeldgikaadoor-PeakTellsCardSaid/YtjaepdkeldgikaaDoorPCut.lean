/- Plain: cuts: how few parts do within a limit, and which cuts are the first ones that do. No program in sight. -/
import Derived.Test.YtjaepdkeldgikaaDoorPBatch
set_option linter.unusedVariables false
set_option linter.unusedSimpArgs false
namespace Gal
section
variable (c : Nat → Int) (n : Nat) (L : Int)
/-- what the d layers from k on cost -/
def sg (k : Nat) : Nat → Int
  | 0 => 0
  | d + 1 => sg k d + c (k + d)
/-- the layers from k on can be had in s parts within the limit -/
def Fits : Nat → Nat → Prop
  | 0, k => k = n
  | s + 1, k => ∃ d, 1 ≤ d ∧ k + d ≤ n ∧ sg c k d ≤ L ∧ Fits s (k + d)
/-- how many layers from k + d on, m at most, still go into a part that has d -/
def gFrom (k d : Nat) : Nat → Nat
  | 0 => d
  | m + 1 => if sg c k d + c (k + d) ≤ L then gFrom k (d + 1) m else d
/-- how many layers from k on go into one part -/
def gl (k : Nat) : Nat := gFrom c L k 0 (n - k)
/-- how few parts the last d layers need; more than there are layers: they do not fit -/
def tl (d : Nat) : Nat := if h : d = 0 then 0 else if hg : gl c n L (n - d) = 0 then n + 1 else 1 + tl (d - gl c n L (n - d))
termination_by d
decreasing_by omega
end
section
variable {c : Nat → Int} {n : Nat} {L : Int}
theorem sg_succ (k d : Nat) : sg c k (d + 1) = sg c k d + c (k + d) := rfl
theorem sg_mono (hc : ∀ i, 0 ≤ c i) {k d e : Nat} (h : d ≤ e) : sg c k d ≤ sg c k e := by
  induction e with
  | zero => obtain rfl : d = 0 := by omega
            exact Int.le_refl _
  | succ e ih =>
    rcases Nat.lt_or_ge d (e + 1) with h1 | h1
    · have h2 := ih (by omega)
      have h3 := hc (k + e)
      rw [sg_succ]
      omega
    · obtain rfl : d = e + 1 := by omega
      exact Int.le_refl _
theorem sg_nn (hc : ∀ i, 0 ≤ c i) (k d : Nat) : 0 ≤ sg c k d := sg_mono hc (Nat.zero_le d)
theorem sg_split (k d e : Nat) : sg c k (d + e) = sg c k d + sg c (k + d) e := by
  induction e with
  | zero => simp [sg]
  | succ e ih =>
    rw [← Nat.add_assoc, sg_succ, sg_succ, ih, show k + d + e = k + (d + e) by omega]
    omega
theorem sg_one (hc : ∀ i, 0 ≤ c i) {k d i : Nat} (h : i < d) : c (k + i) ≤ sg c k d := by
  have h1 := sg_mono hc (k := k) (show i + 1 ≤ d by omega)
  have h2 := sg_nn hc k i
  rw [sg_succ] at h1
  omega
theorem gFrom_spec (hc : ∀ i, 0 ≤ c i) {k : Nat} : ∀ m d, sg c k d ≤ L → sg c k (gFrom c L k d m) ≤ L ∧ d ≤ gFrom c L k d m ∧ gFrom c L k d m ≤ d + m ∧ ∀ e, e ≤ d + m → sg c k e ≤ L → e ≤ gFrom c L k d m
  | 0, d, h => ⟨h, Nat.le_refl _, Nat.le_refl _, fun e he _ => he⟩
  | m + 1, d, h => by
    unfold gFrom
    by_cases h1 : sg c k d + c (k + d) ≤ L
    · rw [if_pos h1]
      obtain ⟨a1, a2, a3, a4⟩ := gFrom_spec hc m (d + 1) h1
      exact ⟨a1, by omega, by omega, fun e he hs => a4 e (by omega) hs⟩
    · rw [if_neg h1]
      refine ⟨h, Nat.le_refl _, by omega, fun e he hs => ?_⟩
      rcases Nat.lt_or_ge d e with h2 | h2
      · have := sg_mono hc (k := k) (show d + 1 ≤ e from h2)
        rw [sg_succ] at this
        omega
      · exact h2
theorem gl_spec (hc : ∀ i, 0 ≤ c i) (hL : 0 ≤ L) (k : Nat) : sg c k (gl c n L k) ≤ L ∧ gl c n L k ≤ n - k ∧ ∀ e, e ≤ n - k → sg c k e ≤ L → e ≤ gl c n L k := by
  obtain ⟨a1, _, a3, a4⟩ := gFrom_spec (L := L) hc (k := k) (n - k) 0 hL
  exact ⟨a1, by simpa [gl] using a3, fun e he hs => a4 e (by omega) hs⟩
theorem fits_le : ∀ {s k : Nat}, Fits c n L s k → k ≤ n ∧ s ≤ n - k
  | 0, k, h => by have : k = n := h
                  omega
  | s + 1, k, ⟨d, h1, h2, _, h4⟩ => by
    have := fits_le h4
    omega
/-- who begins later needs no more parts -/
theorem fits_later (hc : ∀ i, 0 ≤ c i) : ∀ {s k k' : Nat}, Fits c n L s k → k ≤ k' → k' ≤ n → ∃ s', s' ≤ s ∧ Fits c n L s' k'
  | 0, k, k', h, h1, h2 => ⟨0, Nat.le_refl _, by have : k = n := h
                                                 show k' = n
                                                 omega⟩
  | s + 1, k, k', ⟨d, d1, d2, d3, d4⟩, h1, h2 => by
    rcases Nat.lt_or_ge k' (k + d) with h3 | h3
    · refine ⟨s + 1, Nat.le_refl _, k + d - k', by omega, by omega, ?_, ?_⟩
      · have h4 := sg_split (c := c) k (k' - k) (k + d - k')
        rw [show k' - k + (k + d - k') = d by omega, show k + (k' - k) = k' by omega] at h4
        have h5 := sg_nn hc k (k' - k)
        omega
      · rw [show k' + (k + d - k') = k + d by omega]
        exact d4
    · obtain ⟨s', a1, a2⟩ := fits_later hc d4 h3 h2
      exact ⟨s', by omega, a2⟩
theorem tl_zero : tl c n L 0 = 0 := by unfold tl; simp
theorem tl_none {d : Nat} (h : d ≠ 0) (hg : gl c n L (n - d) = 0) : tl c n L d = n + 1 := by unfold tl; rw [dif_neg h, dif_pos hg]
theorem tl_some {d : Nat} (h : d ≠ 0) (hg : gl c n L (n - d) ≠ 0) : tl c n L d = 1 + tl c n L (d - gl c n L (n - d)) := by rw [tl, dif_neg h, dif_neg hg]
/-- no parts are fewer -/
theorem tl_least (hc : ∀ i, 0 ≤ c i) (hL : 0 ≤ L) : ∀ (s d : Nat), d ≤ n → Fits c n L s (n - d) → tl c n L d ≤ s := by
  intro s
  induction s using Nat.strongRecOn with
  | ind s ih =>
    intro d hd h
    cases s with
    | zero =>
      have : n - d = n := h
      obtain rfl : d = 0 := by omega
      rw [tl_zero]
      exact Nat.le_refl _
    | succ s =>
      obtain ⟨e, e1, e2, e3, e4⟩ := h
      obtain ⟨_, g2, g3⟩ := gl_spec (n := n) hc hL (n - d)
      have g4 := g3 e (by omega) e3
      have h0 : d ≠ 0 := by omega
      rw [tl_some h0 (by omega)]
      obtain ⟨s', a1, a2⟩ := fits_later hc e4 (show n - d + e ≤ n - (d - gl c n L (n - d)) by omega) (by omega)
      have := ih s' (by omega) _ (by omega) a2
      omega
/-- where the parts do, each layer does -/
theorem tl_each (hc : ∀ i, 0 ≤ c i) (hL : 0 ≤ L) : ∀ (d : Nat), d ≤ n → tl c n L d ≤ n → ∀ i, n - d ≤ i → i < n → c i ≤ L := by
  intro d
  induction d using Nat.strongRecOn with
  | ind d ih =>
    intro hd h i h1 h2
    have h0 : d ≠ 0 := by omega
    obtain ⟨g1, g2, _⟩ := gl_spec (n := n) hc hL (n - d)
    by_cases hg : gl c n L (n - d) = 0
    · rw [tl_none h0 hg] at h; omega
    · rw [tl_some h0 hg] at h
      rcases Nat.lt_or_ge i (n - d + gl c n L (n - d)) with h3 | h3
      · have := sg_one hc (k := n - d) (show i - (n - d) < gl c n L (n - d) by omega)
        rw [show n - d + (i - (n - d)) = i by omega] at this
        omega
      · exact ih (d - gl c n L (n - d)) (by omega) (by omega) (by omega) i (by omega) h2
theorem fits_single : ∀ (d : Nat), d ≤ n → (∀ i, n - d ≤ i → i < n → c i ≤ L) → Fits c n L d (n - d)
  | 0, _, _ => by show n - 0 = n; omega
  | d + 1, hd, h => by
    refine ⟨1, Nat.le_refl _, by omega, ?_, ?_⟩
    · have := h (n - (d + 1)) (Nat.le_refl _) (by omega)
      show 0 + c (n - (d + 1) + 0) ≤ L
      rw [Nat.add_zero]
      omega
    · rw [show n - (d + 1) + 1 = n - d by omega]
      exact fits_single d (by omega) fun i h1 h2 => h i (by omega) h2
/-- the tail tells whether so many parts do -/
theorem tl_fits (hc : ∀ i, 0 ≤ c i) (hL : 0 ≤ L) : ∀ (d s : Nat), d ≤ n → tl c n L d ≤ s → s ≤ d → Fits c n L s (n - d) := by
  intro d
  induction d using Nat.strongRecOn with
  | ind d ih =>
    intro s hd h hs
    by_cases h0 : d = 0
    · subst h0
      obtain rfl : s = 0 := by omega
      show n - 0 = n
      omega
    · obtain ⟨g1, g2, g3⟩ := gl_spec (n := n) hc hL (n - d)
      by_cases hg : gl c n L (n - d) = 0
      · rw [tl_none h0 hg] at h; omega
      · have he := tl_each hc hL d hd (by omega)
        rw [tl_some h0 hg] at h
        obtain ⟨s, rfl⟩ : ∃ t, s = t + 1 := ⟨s - 1, by omega⟩
        rcases Nat.lt_or_ge (d - gl c n L (n - d)) s with h1 | h1
        · refine ⟨d - s, by omega, by omega, Int.le_trans (sg_mono hc (by omega)) g1, ?_⟩
          rw [show n - d + (d - s) = n - s by omega]
          exact fits_single s (by omega) fun i h2 h3 => he i (by omega) h3
        · refine ⟨gl c n L (n - d), by omega, by omega, g1, ?_⟩
          rw [show n - d + gl c n L (n - d) = n - (d - gl c n L (n - d)) by omega]
          exact ih _ (by omega) s (by omega) (by omega) h1
theorem fits_iff (hc : ∀ i, 0 ≤ c i) (hL : 0 ≤ L) {d s : Nat} (hd : d ≤ n) : Fits c n L s (n - d) ↔ tl c n L d ≤ s ∧ s ≤ d :=
  ⟨fun h => ⟨tl_least hc hL s d hd h, by have := (fits_le h).2; omega⟩, fun h => tl_fits hc hL d s hd h.1 h.2⟩
theorem fits_more {M : Int} (hLM : L ≤ M) : ∀ {s k : Nat}, Fits c n L s k → Fits c n M s k
  | 0, k, h => h
  | s + 1, k, ⟨d, h1, h2, h3, h4⟩ => ⟨d, h1, h2, Int.le_trans h3 hLM, fits_more hLM h4⟩
end
end Gal
