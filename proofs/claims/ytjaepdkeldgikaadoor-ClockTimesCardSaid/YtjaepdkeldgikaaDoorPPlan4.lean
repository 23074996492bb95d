/- Plain: a plan whose acts can be timed is never stuck; waves and turns can be timed. No program in sight. -/
import Derived.Test.YtjaepdkeldgikaaDoorPPlan3
set_option linter.unusedVariables false
set_option linter.unusedSimpArgs false
namespace Gal
/-- an act's time is later than those of all that it waits for -/
def timed (p : PlanD) (τ : Nat → ActD → Nat) (s i : Nat) : Prop :=
  (i = 0 ∨ τ s (ax (px p s) (i - 1)) < τ s (ax (px p s) i)) ∧
  (if (ax (px p s) i).1 = 1 then (s = 0 ∨ (ax (px p s) i ∈ px p (s - 1) ∧ τ (s - 1) (ax (px p s) i) < τ s (ax (px p s) i)))
    else (((1, (ax (px p s) i).2) ∈ px p s ∧ τ s (1, (ax (px p s) i).2) < τ s (ax (px p s) i)) ∧ (s + 1 = p.length ∨ (ax (px p s) i ∈ px p (s + 1) ∧ τ (s + 1) (ax (px p s) i) < τ s (ax (px p s) i)))))
instance (p : PlanD) (τ : Nat → ActD → Nat) (s i : Nat) : Decidable (timed p τ s i) := by unfold timed; exact inferInstance
def Timed (p : PlanD) (τ : Nat → ActD → Nat) : Prop := ∀ s, s < p.length → ∀ i, i < (px p s).length → timed p τ s i
instance (p : PlanD) (τ : Nat → ActD → Nat) : Decidable (Timed p τ) := by unfold Timed; exact inferInstance
section
variable {p : PlanD} {τ : Nat → ActD → Nat} {nx : Nat → Nat}
theorem timed_mono (h : Timed p τ) {s : Nat} (hs : s < p.length) : ∀ {i j : Nat}, i ≤ j → j < (px p s).length → τ s (ax (px p s) i) ≤ τ s (ax (px p s) j)
  | i, 0, hi, _ => by obtain rfl : i = 0 := by omega
                      exact Nat.le_refl _
  | i, j + 1, hi, hj => by
    rcases Nat.lt_or_ge i (j + 1) with h1 | h1
    · have h2 := timed_mono h hs (show i ≤ j by omega) (by omega)
      have h3 := (h s hs (j + 1) hj).1
      rcases h3 with h3 | h3
      · omega
      · rw [Nat.add_sub_cancel] at h3; omega
    · obtain rfl : i = j + 1 := by omega
      exact Nat.le_refl _
theorem mem_ax {l : List ActD} {a : ActD} (h : a ∈ l) : ∃ j, j < l.length ∧ ax l j = a := by
  obtain ⟨j, hj, rfl⟩ := List.mem_iff_getElem.1 h
  refine ⟨j, hj, ?_⟩
  have := ax_get hj
  rw [List.getElem?_eq_getElem hj] at this
  simpa using this.symm
theorem ax_mem_take {l : List ActD} {j n : Nat} (h : j < l.length) (hn : j < n) : ax l j ∈ l.take n := by
  have h1 := ax_get h
  exact List.mem_of_getElem? (by rw [List.getElem?_take_of_lt hn]; exact h1)
/-- what is waited for was done, or is to come sooner -/
theorem dep_done (h : Timed p τ) {s : Nat} (hs : s < p.length) {a : ActD} (ha : a ∈ px p s) (hn : a ∉ (px p s).take (nx s)) : nx s < (px p s).length ∧ τ s (ax (px p s) (nx s)) ≤ τ s a := by
  obtain ⟨j, hj, rfl⟩ := mem_ax ha
  have h1 : nx s ≤ j := by
    rcases Nat.lt_or_ge j (nx s) with h2 | h2
    · exact absurd (ax_mem_take hj h2) hn
    · exact h2
  exact ⟨by omega, timed_mono h hs h1 hj⟩
theorem not_stuck (h : Timed p τ) (hno : ∀ s, s < p.length → ¬ can p nx s) : ∀ (v s : Nat), s < p.length → nx s < (px p s).length → τ s (ax (px p s) (nx s)) = v → False := fun v => by
  induction v using Nat.strongRecOn with
  | ind v ih =>
    intro s hs hl hv
    have ht := (h s hs (nx s) hl).2
    have hr : ¬ rdy p nx s (ax (px p s) (nx s)) := fun h1 => hno s hs ⟨hl, h1⟩
    unfold rdy at hr
    by_cases k1 : (ax (px p s) (nx s)).1 = 1
    · rw [if_pos k1] at ht hr
      rcases ht with h1 | ⟨h1, h2⟩
      · exact hr (Or.inl h1)
      · by_cases h3 : ax (px p s) (nx s) ∈ (px p (s - 1)).take (nx (s - 1))
        · exact hr (Or.inr h3)
        · obtain ⟨h4, h5⟩ := dep_done h (by omega) h1 h3
          exact ih _ (by omega) (s - 1) (by omega) h4 rfl
    · rw [if_neg k1] at ht hr
      obtain ⟨⟨a1, a2⟩, b⟩ := ht
      by_cases h3 : (1, (ax (px p s) (nx s)).2) ∈ (px p s).take (nx s)
      · rcases b with b | ⟨b1, b2⟩
        · exact hr ⟨h3, Or.inl b⟩
        · by_cases h4 : ax (px p s) (nx s) ∈ (px p (s + 1)).take (nx (s + 1))
          · exact hr ⟨h3, Or.inr h4⟩
          · have hs1 : s + 1 < p.length := by
              rcases Nat.lt_or_ge (s + 1) p.length with h5 | h5
              · exact h5
              · exfalso
                unfold px at b1
                rw [List.getElem?_eq_none h5] at b1
                exact absurd b1 List.not_mem_nil
            obtain ⟨h5, h6⟩ := dep_done h hs1 b1 h4
            exact ih _ (by omega) (s + 1) hs1 h5 rfl
      · obtain ⟨h5, h6⟩ := dep_done h hs a1 h3
        exact ih _ (by omega) s hs h5 rfl
theorem sim_done (h : Timed p τ) {c : Nat} (hlen : ∀ s, s < p.length → (px p s).length = c) : ∀ (f : Nat) (nx : Nat → Nat), (∀ s, s < p.length → nx s ≤ c) → c * p.length ≤ sumTo' nx p.length + f → doneAll p (sim p f nx)
  | 0, nx, hle, hf => fun s hs => by
    have h1 := sum_le (n := p.length) hle
    rw [hlen s hs]
    exact (sum_full (n := p.length) hle).1 (by omega) s hs
  | f + 1, nx, hle, hf => by
    by_cases hn : ∀ s, s < p.length → ¬ can p nx s
    · rw [sim_stop (nextS_none hn)]
      intro s hs
      have h1 := hle s hs
      have h2 := hlen s hs
      rcases Nat.lt_or_ge (nx s) (px p s).length with h3 | h3
      · exact (not_stuck h hn _ s hs h3 rfl).elim
      · omega
    · cases hx : nextS p nx with
      | none =>
        exfalso
        refine hn fun s hs => ?_
        have := List.find?_eq_none.1 hx s (List.mem_range.2 hs)
        simpa using this
      | some s =>
        rw [sim_step hx]
        have h1 := List.find?_some hx
        have h2 := List.mem_range.1 (List.mem_of_find?_eq_some hx)
        simp only [decide_eq_true_eq] at h1
        refine sim_done h hlen f (bump nx s) (fun r hr => ?_) (by rw [sum_bump h2]; omega)
        unfold bump
        by_cases e : r = s
        · rw [if_pos e]
          have := h1.1
          rw [hlen s h2] at this
          omega
        · rw [if_neg e]; exact hle r hr
/-- a plan that can be timed is none that is wrong -/
theorem timed_ok {m : Nat} (hb : ¬ planBad m p) (hs : ∀ s, s < p.length → actsFault m (px p s) = 0) (h : Timed p τ) : planFault m p = 0 := by
  refine planFault_0 hb (stageFault_none hs) ?_
  rw [Int.toNat_natCast]
  refine sim_done h (c := 2 * m) (fun s hs' => ?_) _ _ (fun s _ => Nat.zero_le _) (by rw [sum_zero]; omega)
  have := (actsFault_ok (hs s hs')).2.2.1
  omega
end
def tauWave (S M : Nat) (s : Nat) (a : ActD) : Nat := if a.1 = 1 then a.2.toNat + s else M + S - 1 + (S - 1 - s) + a.2.toNat
def tauTurns (S M : Nat) (s : Nat) (a : ActD) : Nat := if a.1 = 1 then (if a.2.toNat ≤ S - 1 - s then s + a.2.toNat else s + 2 * a.2.toNat) else 2 * S - 1 - s + 2 * a.2.toNat
def stagesOk (m : Int) (p : PlanD) : Prop := ∀ s, s < p.length → actsFault m (px p s) = 0
instance (m : Int) (p : PlanD) : Decidable (stagesOk m p) := by unfold stagesOk; exact inferInstance
set_option maxRecDepth 100000
theorem waves_timed : ∀ S : Fin 6, ∀ M : Fin 12, Timed (waveOf (S.val + 1) (M.val + 1)) (tauWave (S.val + 1) (M.val + 1)) := by decide +kernel
theorem turns_timed : ∀ S : Fin 6, ∀ M : Fin 12, Timed (turnsOf (S.val + 1) (M.val + 1)) (tauTurns (S.val + 1) (M.val + 1)) := by decide +kernel
theorem waves_stages : ∀ S : Fin 6, ∀ M : Fin 12, stagesOk ((M.val + 1 : Nat) : Int) (waveOf (S.val + 1) (M.val + 1)) := by decide +kernel
theorem turns_stages : ∀ S : Fin 6, ∀ M : Fin 12, stagesOk ((M.val + 1 : Nat) : Int) (turnsOf (S.val + 1) (M.val + 1)) := by decide +kernel
theorem wave_ok {S M : Nat} (hS : 1 ≤ S ∧ S ≤ 6) (hM : 1 ≤ M ∧ M ≤ 12) : planFault M (waveOf S M) = 0 := by
  have h1 := waves_timed ⟨S - 1, by omega⟩ ⟨M - 1, by omega⟩
  have h2 := waves_stages ⟨S - 1, by omega⟩ ⟨M - 1, by omega⟩
  simp only [show S - 1 + 1 = S by omega, show M - 1 + 1 = M by omega] at h1 h2
  exact timed_ok (by unfold planBad waveOf; rw [aheadOf_length]; omega) h2 h1
theorem turns_ok {S M : Nat} (hS : 1 ≤ S ∧ S ≤ 6) (hM : 1 ≤ M ∧ M ≤ 12) : planFault M (turnsOf S M) = 0 := by
  have h1 := turns_timed ⟨S - 1, by omega⟩ ⟨M - 1, by omega⟩
  have h2 := turns_stages ⟨S - 1, by omega⟩ ⟨M - 1, by omega⟩
  simp only [show S - 1 + 1 = S by omega, show M - 1 + 1 = M by omega] at h1 h2
  exact timed_ok (by unfold planBad turnsOf; rw [aheadOf_length]; omega) h2 h1
end Gal
