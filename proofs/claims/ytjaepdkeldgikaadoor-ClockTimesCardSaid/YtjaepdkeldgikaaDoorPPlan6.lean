/- Plain: the document's view of a plan: what is wrong with one stage; rounds in which each stage goes as far as it can; evenness. No program in sight. -/
import Derived.Test.YtjaepdkeldgikaaDoorPPlan4
set_option linter.unusedVariables false
set_option linter.unusedSimpArgs false
namespace Gal
/-! ### as many as there are -/
theorem len_le_of_subset {α : Type} [DecidableEq α] : ∀ {l m : List α}, l.Nodup → (∀ x ∈ l, x ∈ m) → l.length ≤ m.length
  | [], m, _, _ => Nat.zero_le _
  | a :: l, m, hn, hs => by
    obtain ⟨h1, h2⟩ := List.nodup_cons.1 hn
    have h3 := len_le_of_subset (m := m.erase a) h2 fun x hx => by
      have h4 : x ≠ a := fun e => h1 (e ▸ hx)
      exact (List.mem_erase_of_ne h4).2 (hs x (by simp [hx]))
    have h5 := List.length_erase_of_mem (hs a (by simp))
    have h6 : 0 < m.length := List.length_pos_of_mem (hs a (by simp))
    simp only [List.length_cons]
    omega
/-- all acts of so many parts -/
def allActs (M : Nat) : List ActD := (List.range M).map (fun (i : Nat) => ((1 : Int), (i : Int))) ++ (List.range M).map (fun (i : Nat) => ((2 : Int), (i : Int)))
theorem allActs_length (M : Nat) : (allActs M).length = 2 * M := by simp [allActs]; omega
theorem mem_allActs {M : Nat} {a : ActD} : a ∈ allActs M ↔ actOk M a := by
  unfold allActs actOk
  rw [List.mem_append, List.mem_map, List.mem_map]
  constructor
  · rintro (⟨i, hi, rfl⟩ | ⟨i, hi, rfl⟩)
    · have := List.mem_range.1 hi
      exact ⟨Or.inl rfl, by dsimp only; omega, by dsimp only; omega⟩
    · have := List.mem_range.1 hi
      exact ⟨Or.inr rfl, by dsimp only; omega, by dsimp only; omega⟩
  · rintro ⟨h1, h2, h3⟩
    rcases h1 with h1 | h1
    · exact Or.inl ⟨a.2.toNat, List.mem_range.2 (by omega), Prod.ext (by dsimp only; omega) (by dsimp only; omega)⟩
    · exact Or.inr ⟨a.2.toNat, List.mem_range.2 (by omega), Prod.ext (by dsimp only; omega) (by dsimp only; omega)⟩
theorem okTo_mem {M : Int} {l : List ActD} (h : okTo M l l.length) : ∀ a ∈ l, actOk M a := fun a ha => by
  obtain ⟨j, hj, rfl⟩ := mem_ax ha
  exact h j hj
theorem acts_le {M : Nat} {l : List ActD} (h : okTo M l l.length) (hn : l.Nodup) : l.length ≤ 2 * M := by
  rw [← allActs_length M]
  exact len_le_of_subset hn fun a ha => mem_allActs.2 (okTo_mem h a ha)
theorem acts_full {M : Nat} {l : List ActD} (h : okTo M l l.length) (hn : l.Nodup) (hl : l.length = 2 * M) {a : ActD} (ha : actOk M a) : a ∈ l := by
  by_cases hm : a ∈ l
  · exact hm
  · exfalso
    have h1 := len_le_of_subset (l := a :: l) (m := allActs M) (List.nodup_cons.2 ⟨hm, hn⟩) fun x hx => by
      rcases List.mem_cons.1 hx with rfl | hx
      · exact mem_allActs.2 ha
      · exact mem_allActs.2 (okTo_mem h x hx)
    rw [allActs_length] at h1
    simp only [List.length_cons] at h1
    omega
/-! ### what is wrong with one stage, as the document says it -/
def twice (l : List ActD) (n : Nat) : Prop := ∃ i, i < n ∧ ∃ k, k < i ∧ ax l i = ax l k
def late (l : List ActD) (n : Nat) : Prop := ∃ i, i < n ∧ ∃ k, k < i ∧ (ax l i).2 = (ax l k).2 ∧ (ax l k).1 = 2
theorem twice_iff {l : List ActD} : twice l l.length ↔ ¬ l.Nodup := by
  constructor
  · rintro ⟨i, hi, k, hk, e⟩ hn
    refine nodup_no hi ?_ hn
    rw [e]
    exact ax_mem_take (by omega) hk
  · intro h
    by_cases ht : twice l l.length
    · exact ht
    · exfalso
      refine h ?_
      have hall : ∀ t, t ≤ l.length → (l.take t).Nodup := fun t => by
        induction t with
        | zero => intro _; simp
        | succ t ih =>
          intro htl
          refine nodup_next (by omega) (ih (by omega)) fun hm => ?_
          obtain ⟨j, hj⟩ := List.getElem?_of_mem hm
          have hjt : j < t := by
            rcases Nat.lt_or_ge j t with h1 | h1
            · exact h1
            · rw [List.getElem?_eq_none (by rw [List.length_take]; omega)] at hj; cases hj
          rw [List.getElem?_take_of_lt hjt, ax_get (by omega)] at hj
          simp only [Option.some.injEq] at hj
          exact ht ⟨t, by omega, j, hjt, hj.symm⟩
      have := hall l.length (Nat.le_refl _)
      rwa [List.take_of_length_le (Nat.le_refl _)] at this
theorem late_iff {M : Nat} {l : List ActD} (h : okTo M l l.length) (hn : l.Nodup) (hl : l.length = 2 * M) : late l l.length ↔ ¬ ordTo l l.length := by
  have hinj : ∀ {i j : Nat}, i < l.length → j < l.length → ax l i = ax l j → i = j := fun {i j} hi hj e => by
    rcases Nat.lt_trichotomy i j with h1 | h1 | h1
    · exact absurd hn (twice_iff.1 ⟨j, hj, i, h1, e.symm⟩)
    · exact h1
    · exact absurd hn (twice_iff.1 ⟨i, hi, j, h1, e⟩)
  constructor
  · rintro ⟨i, hi, k, hk, e1, e2⟩ ho
    have h1 := ho k (by omega) e2
    obtain ⟨j, hj⟩ := List.getElem?_of_mem h1
    have hjk : j < k + 1 := by
      rcases Nat.lt_or_ge j (k + 1) with h2 | h2
      · exact h2
      · rw [List.getElem?_eq_none (by rw [List.length_take]; omega)] at hj; cases hj
    rw [List.getElem?_take_of_lt hjk, ax_get (by omega)] at hj
    simp only [Option.some.injEq] at hj
    have hi1 := (h i hi).1
    rcases hi1 with hi1 | hi1
    · have := hinj (i := i) (j := j) hi (by omega) (by rw [hj]; exact Prod.ext hi1 e1)
      omega
    · have := hinj (i := i) (j := k) hi (by omega) (Prod.ext (by rw [hi1, e2]) e1)
      omega
  · intro ho
    by_cases hlt : late l l.length
    · exact hlt
    · exfalso
      refine ho fun i hi e => ?_
      have hi3 := (h i hi).2
      have hF : ((1 : Int), (ax l i).2) ∈ l := acts_full h hn hl ⟨Or.inl rfl, hi3.1, hi3.2⟩
      obtain ⟨j, hj, hje⟩ := mem_ax hF
      rcases Nat.lt_or_ge j (i + 1) with h1 | h1
      · rw [← hje]; exact ax_mem_take hj h1
      · exfalso
        exact hlt ⟨j, hj, i, by omega, by rw [hje], e⟩
open Classical in
/-- the document's word on one stage -/
noncomputable def refActs (M : Int) (l : List ActD) : Int :=
  if ¬ okTo M l l.length then 1 else if twice l l.length then 8 else if (l.length : Int) < 2 * M then 2 else if late l l.length then 5 else 0
theorem refActs_is {M : Nat} (l : List ActD) : refActs M l = actsFault M l := by
  unfold refActs
  rw [actsFault]
  by_cases h1 : okTo M l l.length
  · rw [if_neg (fun hh : ¬ okTo M l l.length => hh h1), if_neg (fun hh : ¬ okTo M l l.length => hh h1)]
    by_cases h2 : l.Nodup
    · rw [if_neg (fun hh : twice l l.length => twice_iff.1 hh h2), if_neg (fun hh : ¬ l.Nodup => hh h2)]
      have hle := acts_le h1 h2
      by_cases h3 : (l.length : Int) = 2 * M
      · rw [if_neg (by omega : ¬ ((l.length : Int) < 2 * M)), if_neg (fun hh : ¬ ((l.length : Int) = 2 * M) => hh h3)]
        have h4 := late_iff h1 h2 (by omega)
        by_cases h5 : ordTo l l.length
        · rw [if_neg (fun hh : late l l.length => h4.1 hh h5), if_neg (fun hh : ¬ ordTo l l.length => hh h5)]
        · rw [if_pos (h4.2 h5), if_pos h5]
      · rw [if_pos (by omega : (l.length : Int) < 2 * M), if_pos h3]
    · rw [if_pos (twice_iff.2 h2), if_pos h2]
  · rw [if_pos h1, if_pos h1]
/-! ### whoever goes first -/
inductive Reach (p : PlanD) : (Nat → Nat) → Prop
  | start : Reach p fun _ => 0
  | step {nx : Nat → Nat} {s : Nat} : Reach p nx → s < p.length → can p nx s → Reach p (bump nx s)
section
variable {p : PlanD} {nx mx : Nat → Nat}
theorem mem_take_mono {l : List ActD} {a : ActD} {m n : Nat} (h : a ∈ l.take m) (hmn : m ≤ n) : a ∈ l.take n := (List.take_sublist_take_left hmn).subset h
theorem rdy_mono {s : Nat} {a : ActD} (hle : ∀ r, r < p.length → nx r ≤ mx r) (hs : s < p.length) (h : rdy p nx s a) : rdy p mx s a := by
  unfold rdy at h ⊢
  by_cases k1 : a.1 = 1
  · rw [if_pos k1] at h ⊢
    rcases h with h | h
    · exact Or.inl h
    · exact Or.inr (mem_take_mono h (hle _ (by omega)))
  · rw [if_neg k1] at h ⊢
    obtain ⟨h1, h2⟩ := h
    refine ⟨mem_take_mono h1 (hle _ hs), ?_⟩
    rcases h2 with h2 | h2
    · exact Or.inl h2
    · by_cases h3 : s + 1 < p.length
      · exact Or.inr (mem_take_mono h2 (hle _ h3))
      · exact Or.inl (by omega)
theorem reach_le (hst : ∀ s, s < p.length → ¬ can p mx s) (h : Reach p nx) : ∀ r, r < p.length → nx r ≤ mx r := by
  induction h with
  | start => exact fun r _ => Nat.zero_le _
  | @step nx s _ hs hc ih =>
    intro r hr
    unfold bump
    by_cases e : r = s
    · subst e
      rw [if_pos rfl]
      rcases Nat.lt_or_ge (nx r) (mx r) with h1 | h1
      · exact h1
      · exfalso
        have h2 := ih r hr
        have h3 : nx r = mx r := by omega
        refine hst r hr ⟨by rw [← h3]; exact hc.1, ?_⟩
        rw [← h3]
        exact rdy_mono ih hr hc.2
    · rw [if_neg e]; exact ih r hr
theorem sim_reach : ∀ (f : Nat) (nx : Nat → Nat), Reach p nx → Reach p (sim p f nx)
  | 0, nx, h => h
  | f + 1, nx, h => by
    cases hx : nextS p nx with
    | none => rw [sim_stop hx]; exact h
    | some s =>
      rw [sim_step hx]
      have h1 := List.find?_some hx
      simp only [decide_eq_true_eq] at h1
      exact sim_reach f _ (.step h (List.mem_range.1 (List.mem_of_find?_eq_some hx)) h1)
theorem reach_bd (h : Reach p nx) : ∀ s, s < p.length → nx s ≤ (px p s).length := by
  induction h with
  | start => exact fun s _ => Nat.zero_le _
  | @step nx s _ hs hc ih =>
    intro r hr
    unfold bump
    by_cases e : r = s
    · subst e; rw [if_pos rfl]; exact hc.1
    · rw [if_neg e]; exact ih r hr
theorem sim_stuck {c : Nat} (hlen : ∀ s, s < p.length → (px p s).length = c) : ∀ (f : Nat) (nx : Nat → Nat), Reach p nx → c * p.length ≤ sumTo' nx p.length + f → ∀ s, s < p.length → ¬ can p (sim p f nx) s
  | 0, nx, hr, hf => fun s hs hc => by
    have hle : ∀ s, s < p.length → nx s ≤ c := fun s hs => by rw [← hlen s hs]; exact reach_bd hr s hs
    have h1 := sum_le (n := p.length) hle
    have h2 := (sum_full (n := p.length) hle).1 (by omega) s hs
    have h3 := hc.1
    rw [hlen s hs] at h3
    change nx s < c at h3
    omega
  | f + 1, nx, hr, hf => by
    cases hx : nextS p nx with
    | none =>
      rw [sim_stop hx]
      intro s hs hc
      have := List.find?_eq_none.1 hx s (List.mem_range.2 hs)
      simp only [decide_eq_true_eq] at this
      exact this hc
    | some s =>
      rw [sim_step hx]
      have h1 := List.find?_some hx
      simp only [decide_eq_true_eq] at h1
      have h2 := List.mem_range.1 (List.mem_of_find?_eq_some hx)
      exact sim_stuck hlen f _ (.step hr h2 h1) (by rw [sum_bump h2]; omega)
/-- whoever goes first, all end alike -/
theorem stuck_is {m : Nat} (hs : ∀ s, s < p.length → actsFault m (px p s) = 0) (hr : Reach p nx) (hst : ∀ s, s < p.length → ¬ can p nx s) : ∀ s, s < p.length → ranOf p (2 * m * p.length) s = nx s := fun s hs' => by
  have hlen : ∀ s, s < p.length → (px p s).length = 2 * m := fun s h1 => by have := (actsFault_ok (hs s h1)).2.2.1; omega
  have h1 := sim_stuck hlen (2 * m * p.length) _ Reach.start (by rw [sum_zero]; omega)
  have h2 := reach_le h1 hr s hs'
  have h3 := reach_le hst (sim_reach (2 * m * p.length) _ Reach.start) s hs'
  unfold ranOf
  omega
/-- as the document asks whether an act can be done -/
def refRdy (p : PlanD) (nx : Nat → Nat) (s : Nat) (a : ActD) : Prop := if a.1 = 2 then (s + 1 = p.length ∨ a ∈ (px p (s + 1)).take (nx (s + 1))) else (s = 0 ∨ a ∈ (px p (s - 1)).take (nx (s - 1)))
theorem refRdy_is {m : Int} {s : Nat} (hf : actsFault m (px p s) = 0) (hl : nx s < (px p s).length) : refRdy p nx s (ax (px p s) (nx s)) ↔ rdy p nx s (ax (px p s) (nx s)) := by
  obtain ⟨h1, h2, h3, h4⟩ := actsFault_ok hf
  unfold refRdy rdy
  have hk := (h1 (nx s) hl).1
  rcases hk with hk | hk
  · rw [if_neg (by omega), if_pos hk]
  · rw [if_pos hk, if_neg (by omega)]
    constructor
    · intro h5
      refine ⟨?_, h5⟩
      have h6 := h4 (nx s) hl hk
      rw [take_ax hl] at h6
      rcases List.mem_append.1 h6 with h7 | h7
      · exact h7
      · simp only [List.mem_singleton] at h7
        have h8 := congrArg Prod.fst h7
        dsimp only at h8
        omega
    · exact fun h5 => h5.2
end
end Gal
