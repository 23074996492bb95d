/- Plain: times put off till nothing is too early any more. No program in sight. -/
import Derived.Test.YtjaepdkeldgikaaDoorPClk2
import Derived.Test.YtjaepdkeldgikaaDoorRPlan4
set_option linter.unusedVariables false
set_option linter.unusedSimpArgs false
namespace Gal
/-- when what an act waits for ends, by some times -/
noncomputable def depW (p : PlanD) (W : Nat → List SpanD) (s : Nat) (a : ActD) : Int :=
  if a.1 = 2 then (if s + 1 = p.length then 0 else (ax (W (s + 1)) (whereOf (px p (s + 1)) a).toNat).2)
  else (if s = 0 then 0 else (ax (W (s - 1)) (whereOf (px p (s - 1)) a).toNat).2)
noncomputable def frW (p : PlanD) (W : Nat → List SpanD) (s i : Nat) : Int := max (prevTo (W s) i) (depW p W s (ax (px p s) i))
noncomputable def spW (p : PlanD) (th bk : List Int) (W : Nat → List SpanD) (s i : Nat) : SpanD := (frW p W s i, frW p W s i + longOf th bk s (ax (px p s) i))
section
variable {p : PlanD} {m : Nat} {th bk : List Int} {X W V : Nat → List SpanD}
theorem PlanOk.at (hp : PlanOk p m) {s r i : Nat} (hs : s < p.length) (hr : r < p.length) (hi : i < (px p s).length) : ∃ j : Nat, whereOf (px p r) (ax (px p s) i) = j ∧ isAt p r (ax (px p s) i) j := by
  have h1 := (actsFault_ok (hp.acts s hs)).1 i hi
  have g := actsFault_ok (hp.acts r hr)
  obtain ⟨j, hj, e⟩ := mem_ax (acts_full g.1 g.2.1 (by omega) h1)
  refine ⟨j, whereOf_at hj e fun hm => ?_, hj, e⟩
  rw [← e] at hm
  exact nodup_no hj hm g.2.1
theorem dep_to (hp : PlanOk p m) (hl : ∀ s, s < p.length → (W s).length = (px p s).length) {s i : Nat} (hs : s < p.length) (hi : i < (px p s).length) : DepTo p W s (ax (px p s) i) (depW p W s (ax (px p s) i)) := by
  unfold DepTo depW
  by_cases k2 : (ax (px p s) i).1 = 2
  · rw [if_pos k2, if_pos k2]
    by_cases e : s + 1 = p.length
    · rw [if_pos e, if_pos e]
    · rw [if_neg e, if_neg e]
      obtain ⟨j, h1, h2⟩ := hp.at hs (r := s + 1) (by omega) hi
      exact ⟨j, by rw [hl _ (by omega)]; exact h2.1, h2, by rw [h1, Int.toNat_natCast]⟩
  · rw [if_neg k2, if_neg k2]
    by_cases e : s = 0
    · rw [if_pos e, if_pos e]
    · rw [if_neg e, if_neg e]
      obtain ⟨j, h1, h2⟩ := hp.at hs (r := s - 1) (by omega) hi
      exact ⟨j, by rw [hl _ (by omega)]; exact h2.1, h2, by rw [h1, Int.toNat_natCast]⟩
theorem dep_is (hp : PlanOk p m) {s i : Nat} (hs : s < p.length) (hi : i < (px p s).length) {t : Int} (h : DepTo p W s (ax (px p s) i) t) : t = depW p W s (ax (px p s) i) := by
  unfold DepTo at h
  unfold depW
  by_cases k2 : (ax (px p s) i).1 = 2
  · rw [if_pos k2] at h ⊢
    by_cases e : s + 1 = p.length
    · rw [if_pos e] at h ⊢; exact h
    · rw [if_neg e] at h ⊢
      obtain ⟨j, h1, h2⟩ := hp.at hs (r := s + 1) (by omega) hi
      obtain ⟨k, _, h3, rfl⟩ := h
      rw [h1, Int.toNat_natCast, isAt_inj (hp.acts (s + 1) (by omega)) h2 h3]
  · rw [if_neg k2] at h ⊢
    by_cases e : s = 0
    · rw [if_pos e] at h ⊢; exact h
    · rw [if_neg e] at h ⊢
      obtain ⟨j, h1, h2⟩ := hp.at hs (r := s - 1) (by omega) hi
      obtain ⟨k, _, h3, rfl⟩ := h
      rw [h1, Int.toNat_natCast, isAt_inj (hp.acts (s - 1) (by omega)) h2 h3]
theorem TimesAre.at (h : TimesAre p th bk X) (hp : PlanOk p m) {s i : Nat} (hs : s < p.length) (hi : i < (px p s).length) : ax (X s) i = spW p th bk X s i := by
  obtain ⟨t, h1, h2⟩ := h.spans s hs i hi
  rw [h2, dep_is hp hs hi h1]
  rfl
theorem times_of (hp : PlanOk p m) (hl : ∀ s, s < p.length → (W s).length = (px p s).length) (h : ∀ s, s < p.length → ∀ i, i < (px p s).length → ax (W s) i = spW p th bk W s i) : TimesAre p th bk W :=
  ⟨hl, fun s hs i hi => ⟨_, dep_to hp hl hs hi, h s hs i hi⟩⟩
theorem fr_mono (h : ∀ s, s < p.length → ∀ i, (ax (W s) i).2 ≤ (ax (V s) i).2) {s i : Nat} (hs : s < p.length) : frW p W s i ≤ frW p V s i := by
  have h1 : prevTo (W s) i ≤ prevTo (V s) i := by
    unfold prevTo
    split
    · exact Int.le_refl _
    · exact h s hs _
  have h2 : depW p W s (ax (px p s) i) ≤ depW p V s (ax (px p s) i) := by
    unfold depW
    split
    · split
      · exact Int.le_refl _
      · exact h _ (by omega) _
    · split
      · exact Int.le_refl _
      · exact h _ (by omega) _
  unfold frW
  omega
/-- times on their way -/
structure TInv (p : PlanD) (th bk : List Int) (X W : Nat → List SpanD) : Prop where
  len : ∀ s, s < p.length → (W s).length = (px p s).length
  nn : ∀ s, s < p.length → ∀ i, i < (px p s).length → 0 ≤ (ax (W s) i).1 ∧ 0 ≤ (ax (W s) i).2
  le : ∀ s, s < p.length → ∀ i, i < (px p s).length → (ax (W s) i).2 ≤ (ax (X s) i).2
  sp : ∀ s, s < p.length → ∀ i, i < (px p s).length → ax (W s) i = (0, 0) ∨ ∃ f, ax (W s) i = (f, f + longOf th bk s (ax (px p s) i)) ∧ f ≤ frW p W s i
theorem ax_out {x : List SpanD} {i : Nat} (h : x.length ≤ i) : ax x i = (0, 0) := by unfold ax; rw [List.getElem?_eq_none h]; rfl
theorem TInv.nn' (h : TInv p th bk X W) {s : Nat} (hs : s < p.length) (i : Nat) : 0 ≤ (ax (W s) i).2 := by
  rcases Nat.lt_or_ge i (px p s).length with h1 | h1
  · exact (h.nn s hs i h1).2
  · rw [ax_out (by rw [h.len s hs]; exact h1)]
    exact Int.le_refl _
theorem TInv.fr_nn (h : TInv p th bk X W) {s i : Nat} (hs : s < p.length) : 0 ≤ prevTo (W s) i ∧ 0 ≤ depW p W s (ax (px p s) i) ∧ 0 ≤ frW p W s i := by
  have h1 : 0 ≤ prevTo (W s) i := by
    unfold prevTo
    split
    · exact Int.le_refl _
    · exact h.nn' hs _
  have h2 : 0 ≤ depW p W s (ax (px p s) i) := by
    unfold depW
    split
    · split
      · exact Int.le_refl _
      · exact h.nn' (by omega) _
    · split
      · exact Int.le_refl _
      · exact h.nn' (by omega) _
  unfold frW
  omega
theorem TInv.le' (h : TInv p th bk X W) (hX : TimesAre p th bk X) : ∀ s, s < p.length → ∀ i, (ax (W s) i).2 ≤ (ax (X s) i).2 := fun s hs i => by
  rcases Nat.lt_or_ge i (px p s).length with h1 | h1
  · exact h.le s hs i h1
  · rw [ax_out (by rw [h.len s hs]; exact h1), ax_out (by rw [hX.len s hs]; exact h1)]
    exact Int.le_refl _
theorem TInv.start (hX : TimesAre p th bk X) (hth : costOk th p.length) (hbk : costOk bk p.length) {L : Nat} (hL : ∀ s, s < p.length → (px p s).length = L) : TInv p th bk X fun _ => List.replicate L (0, 0) := by
  have h0 : ∀ i, i < L → ax (List.replicate L ((0 : Int), (0 : Int))) i = (0, 0) := fun i hi => by simp [ax, hi]
  refine ⟨fun s hs => by rw [List.length_replicate, hL s hs], fun s hs i hi => ?_, fun s hs i hi => ?_, fun s hs i hi => ?_⟩
  · rw [h0 i (by rw [← hL s hs]; exact hi)]; exact ⟨Int.le_refl _, Int.le_refl _⟩
  · rw [h0 i (by rw [← hL s hs]; exact hi)]; exact (hX.from_nn hth hbk hs i hi).2
  · rw [h0 i (by rw [← hL s hs]; exact hi)]; exact Or.inl rfl
def setW (W : Nat → List SpanD) (s i : Nat) (x : SpanD) : Nat → List SpanD := fun r => if r = s then (W s).set i x else W r
theorem setW_same {s i : Nat} {x : SpanD} (hi : i < (W s).length) : ax (setW W s i x s) i = x := by
  unfold setW ax
  rw [if_pos rfl, List.getElem?_set_self hi]
  rfl
theorem setW_other {s i r j : Nat} {x : SpanD} (h : ¬ (r = s ∧ j = i)) : ax (setW W s i x r) j = ax (W r) j := by
  unfold setW
  by_cases e : r = s
  · subst e
    rw [if_pos rfl]
    unfold ax
    rw [List.getElem?_set_ne (fun h2 => h ⟨rfl, h2.symm⟩)]
  · rw [if_neg e]
/-- one act is put off -/
theorem TInv.step (h : TInv p th bk X W) (hp : PlanOk p m) (hX : TimesAre p th bk X) (hth : costOk th p.length) (hbk : costOk bk p.length) {s i : Nat} (hs : s < p.length) (hi : i < (px p s).length) (hne : ax (W s) i ≠ spW p th bk W s i) :
    TInv p th bk X (setW W s i (spW p th bk W s i)) ∧ (ax (W s) i).2 < (spW p th bk W s i).2 ∧ (spW p th bk W s i).2 ≤ (ax (X s) i).2 := by
  have hL := longOf_ok hth hbk hs (ax (px p s) i)
  have hnn := h.fr_nn (i := i) hs
  have hup : (ax (W s) i).2 < (spW p th bk W s i).2 := by
    rcases h.sp s hs i hi with h1 | ⟨f, h1, h2⟩
    · rw [h1]; unfold spW; dsimp only; omega
    · rw [h1] at hne ⊢
      unfold spW at hne ⊢
      dsimp only
      have : f ≠ frW p W s i := fun e => hne (by rw [e])
      omega
  have hle : (spW p th bk W s i).2 ≤ (ax (X s) i).2 := by
    rw [hX.at hp hs hi]
    have := fr_mono (h.le' hX) (i := i) hs
    unfold spW
    dsimp only
    omega
  have hwl : i < (W s).length := by rw [h.len s hs]; exact hi
  have hmono : ∀ r, r < p.length → ∀ j, (ax (W r) j).2 ≤ (ax (setW W s i (spW p th bk W s i) r) j).2 := fun r _ j => by
    by_cases e : r = s ∧ j = i
    · obtain ⟨rfl, rfl⟩ := e
      rw [setW_same hwl]
      omega
    · rw [setW_other e]
      exact Int.le_refl _
  refine ⟨⟨fun r hr => ?_, fun r hr j hj => ?_, fun r hr j hj => ?_, fun r hr j hj => ?_⟩, hup, hle⟩
  · unfold setW
    by_cases e : r = s
    · subst e; rw [if_pos rfl, List.length_set]; exact h.len r hr
    · rw [if_neg e]; exact h.len r hr
  · by_cases e : r = s ∧ j = i
    · obtain ⟨rfl, rfl⟩ := e
      rw [setW_same hwl]
      unfold spW
      dsimp only
      omega
    · rw [setW_other e]
      exact h.nn r hr j hj
  · by_cases e : r = s ∧ j = i
    · obtain ⟨rfl, rfl⟩ := e
      rw [setW_same hwl]
      exact hle
    · rw [setW_other e]
      exact h.le r hr j hj
  · by_cases e : r = s ∧ j = i
    · obtain ⟨rfl, rfl⟩ := e
      rw [setW_same hwl]
      exact Or.inr ⟨frW p W r j, rfl, fr_mono hmono hr⟩
    · rw [setW_other e]
      rcases h.sp r hr j hj with h1 | ⟨f, h1, h2⟩
      · exact Or.inl h1
      · exact Or.inr ⟨f, h1, Int.le_trans h2 (fr_mono hmono hr)⟩
/-- how much is still to be put off -/
def gapW (X W : Nat → List SpanD) (n L : Nat) : Nat := sumTo' (fun s => sumTo' (fun i => ((ax (X s) i).2 - (ax (W s) i).2).toNat) L) n
theorem sumTo_le {f g : Nat → Nat} : ∀ {n : Nat}, (∀ k, k < n → f k ≤ g k) → sumTo' f n ≤ sumTo' g n
  | 0, _ => Nat.le_refl _
  | n + 1, h => by
    have h1 := sumTo_le (n := n) fun k hk => h k (by omega)
    have h2 := h n (by omega)
    rw [sumTo', sumTo']
    omega
theorem sumTo_lt {f g : Nat → Nat} {j : Nat} (hj : f j < g j) : ∀ {n : Nat}, j < n → (∀ k, k < n → f k ≤ g k) → sumTo' f n < sumTo' g n
  | n + 1, hn, h => by
    have h2 := h n (by omega)
    rw [sumTo', sumTo']
    rcases Nat.lt_or_ge j n with h3 | h3
    · have h1 := sumTo_lt hj (n := n) h3 fun k hk => h k (by omega)
      omega
    · obtain rfl : j = n := by omega
      have h1 := sumTo_le (n := j) fun k hk => h k (by omega)
      omega
theorem gap_step {n L s i : Nat} {x : SpanD} (hs : s < n) (hi : i < L) (hl : i < (W s).length) (h1 : (ax (W s) i).2 < x.2) (h2 : x.2 ≤ (ax (X s) i).2) : gapW X (setW W s i x) n L < gapW X W n L := by
  have hle : ∀ r j, ((ax (X r) j).2 - (ax (setW W s i x r) j).2).toNat ≤ ((ax (X r) j).2 - (ax (W r) j).2).toNat := fun r j => by
    by_cases e : r = s ∧ j = i
    · obtain ⟨rfl, rfl⟩ := e
      rw [setW_same hl]
      omega
    · rw [setW_other e]
      exact Nat.le_refl _
  have hin : sumTo' (fun k => ((ax (X s) k).2 - (ax (setW W s i x s) k).2).toNat) L < sumTo' (fun k => ((ax (X s) k).2 - (ax (W s) k).2).toNat) L := by
    refine sumTo_lt (j := i) ?_ hi fun k _ => hle _ _
    show ((ax (X s) i).2 - (ax (setW W s i x s) i).2).toNat < ((ax (X s) i).2 - (ax (W s) i).2).toNat
    rw [setW_same hl]
    omega
  unfold gapW
  exact sumTo_lt (f := fun s_1 => sumTo' (fun k => ((ax (X s_1) k).2 - (ax (setW W s i x s_1) k).2).toNat) L) (g := fun s_1 => sumTo' (fun k => ((ax (X s_1) k).2 - (ax (W s_1) k).2).toNat) L) (j := s) hin hs fun k _ => sumTo_le fun j _ => hle _ _
end
end Gal
