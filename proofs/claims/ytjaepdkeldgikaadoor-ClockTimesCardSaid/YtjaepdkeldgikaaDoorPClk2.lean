/- Plain: all times of a plan: there is one such alone; no stage does two acts at once; how long it is; waves and turns. No program in sight. -/
import Derived.Test.YtjaepdkeldgikaaDoorPClk
import Derived.Test.YtjaepdkeldgikaaDoorClk5
import Derived.Test.YtjaepdkeldgikaaDoorClk6
set_option linter.unusedVariables false
set_option linter.unusedSimpArgs false
namespace Gal
structure TimesAre (p : PlanD) (th bk : List Int) (X : Nat → List SpanD) : Prop where
  len : ∀ s, s < p.length → (X s).length = (px p s).length
  spans : ∀ s, s < p.length → ∀ i, i < (px p s).length → SpanAt p th bk X s i
theorem ClkInv.are {p : PlanD} {th bk : List Int} {nx : Nat → Nat} {X : Nat → List SpanD} {l : List ((Int × ActD) × Int)} (h : ClkInv p th bk nx X l) (hn : ∀ s, s < p.length → nx s = (px p s).length) : TimesAre p th bk X :=
  ⟨fun s hs => by rw [h.len s hs, hn s hs], fun s hs i hi => h.spans s hs i (by rw [hn s hs]; exact hi)⟩
structure PlanOk (p : PlanD) (m : Nat) : Prop where
  few : (1 ≤ m ∧ m ≤ 12) ∧ 1 ≤ p.length ∧ p.length ≤ 6
  acts : ∀ s, s < p.length → actsFault m (px p s) = 0
  reach : ∃ nx, Reach p nx ∧ ∀ s, s < p.length → nx s = (px p s).length
theorem planOk_of {p : PlanD} {m : Nat} (hf : planFault m p = 0) : PlanOk p m := by
  obtain ⟨h1, h2⟩ := stage_len hf
  refine ⟨by unfold planBad at h1; omega, h2, ranOf p (2 * m * p.length), sim_reach _ _ Reach.start, ?_⟩
  by_cases hd : doneAll p (ranOf p (2 * m * p.length))
  · exact hd
  · have := planFault_6 (M := (m : Int)) (p := p) h1 (stageFault_none h2) (by rw [Int.toNat_natCast]; exact hd)
    rw [hf] at this
    exact absurd this (by decide)
theorem planFault_nat {p : PlanD} {M : Int} (hf : planFault M p = 0) : ∃ m : Nat, M = m := by
  by_cases hb : planBad M p
  · rw [planFault_1 hb] at hf; exact absurd hf (by decide)
  · unfold planBad at hb; exact ⟨M.toNat, by omega⟩
section
variable {p : PlanD} {m : Nat} {th bk : List Int} {X Y : Nat → List SpanD}
theorem PlanOk.len (h : PlanOk p m) {s : Nat} (hs : s < p.length) : (px p s).length = 2 * m := by have := (actsFault_ok (h.acts s hs)).2.2.1; omega
theorem list_ax {x y : List SpanD} (hl : x.length = y.length) (h : ∀ i, i < x.length → ax x i = ax y i) : x = y := by
  apply List.ext_getElem? 
  intro i
  rcases Nat.lt_or_ge i x.length with h1 | h1
  · rw [ax_get h1, ax_get (hl ▸ h1), h i h1]
  · rw [List.getElem?_eq_none h1, List.getElem?_eq_none (hl ▸ h1)]
theorem times_uniq (hp : PlanOk p m) (hX : TimesAre p th bk X) (hY : TimesAre p th bk Y) : ∀ s, s < p.length → X s = Y s := by
  obtain ⟨nx, hr, hfull⟩ := hp.reach
  have key : ∀ nx, Reach p nx → ∀ s, s < p.length → ∀ i, i < nx s → ax (X s) i = ax (Y s) i := fun nx hr => by
    induction hr with
    | start => exact fun _ _ i hi => absurd hi (Nat.not_lt_zero _)
    | @step nx s hr hs hc ih =>
      intro r hr' i hi
      by_cases hold : i < nx r
      · exact ih r hr' i hold
      · unfold bump at hi
        by_cases e : r = s
        · subst e
          rw [if_pos rfl] at hi
          obtain rfl : i = nx r := by omega
          obtain ⟨t, ht, e1⟩ := hX.spans r hs _ hc.1
          obtain ⟨u, hu, e2⟩ := hY.spans r hs _ hc.1
          have hpv : prevTo (X r) (nx r) = prevTo (Y r) (nx r) := by
            unfold prevTo
            by_cases h0 : nx r = 0
            · rw [if_pos h0, if_pos h0]
            · rw [if_neg h0, if_neg h0, ih r hs _ (by omega)]
          have hrd := (refRdy_is (nx := nx) (hp.acts r hs) hc.1).2 hc.2
          have htu : t = u := by
            unfold refRdy at hrd
            unfold DepTo at ht hu
            by_cases k2 : (ax (px p r) (nx r)).1 = 2
            · rw [if_pos k2] at hrd ht hu
              by_cases h3 : r + 1 = p.length
              · rw [if_pos h3] at ht hu; omega
              · rw [if_neg h3] at ht hu
                obtain ⟨j, hj, hja⟩ := isAt_take (m := 0) (hrd.resolve_left h3)
                obtain ⟨j1, _, hj1, rfl⟩ := ht
                obtain ⟨j2, _, hj2, rfl⟩ := hu
                obtain rfl := isAt_inj (hp.acts (r + 1) (by omega)) hja hj1
                obtain rfl := isAt_inj (hp.acts (r + 1) (by omega)) hja hj2
                rw [ih (r + 1) (by omega) _ hj]
            · rw [if_neg k2] at hrd ht hu
              by_cases h3 : r = 0
              · rw [if_pos h3] at ht hu; omega
              · rw [if_neg h3] at ht hu
                obtain ⟨j, hj, hja⟩ := isAt_take (m := 0) (hrd.resolve_left h3)
                obtain ⟨j1, _, hj1, rfl⟩ := ht
                obtain ⟨j2, _, hj2, rfl⟩ := hu
                obtain rfl := isAt_inj (hp.acts (r - 1) (by omega)) hja hj1
                obtain rfl := isAt_inj (hp.acts (r - 1) (by omega)) hja hj2
                rw [ih (r - 1) (by omega) _ hj]
          rw [e1, e2, hpv, htu]
        · rw [if_neg e] at hi; exact absurd hi hold
  intro s hs
  refine list_ax (by rw [hX.len s hs, hY.len s hs]) fun i hi => key nx hr s hs i ?_
  rw [hX.len s hs] at hi
  rw [hfull s hs]
  exact hi
/-! ### no stage does two at once -/
theorem TimesAre.from_ge (h : TimesAre p th bk X) {s i : Nat} (hs : s < p.length) (hi : i < (px p s).length) : prevTo (X s) i ≤ (ax (X s) i).1 ∧ (ax (X s) i).2 = (ax (X s) i).1 + longOf th bk s (ax (px p s) i) := by
  obtain ⟨t, _, e⟩ := h.spans s hs i hi
  rw [e]
  dsimp only
  omega
theorem TimesAre.dep_le (h : TimesAre p th bk X) {s i : Nat} (hs : s < p.length) (hi : i < (px p s).length) : ∃ t, DepTo p X s (ax (px p s) i) t ∧ t ≤ (ax (X s) i).1 := by
  obtain ⟨t, ht, e⟩ := h.spans s hs i hi
  refine ⟨t, ht, ?_⟩
  rw [e]
  dsimp only
  omega
theorem longOf_ok (hth : costOk th p.length) (hbk : costOk bk p.length) {s : Nat} (hs : s < p.length) (a : ActD) : 1 ≤ longOf th bk s a ∧ longOf th bk s a ≤ 1000000 := by
  unfold longOf
  split
  · exact hbk s hs
  · exact hth s hs
theorem TimesAre.from_nn (h : TimesAre p th bk X) (hth : costOk th p.length) (hbk : costOk bk p.length) {s : Nat} (hs : s < p.length) : ∀ i, i < (px p s).length → 0 ≤ (ax (X s) i).1 ∧ 0 ≤ (ax (X s) i).2
  | 0, hi => by
    have h1 := h.from_ge hs hi
    have h2 := longOf_ok hth hbk hs (ax (px p s) 0)
    unfold prevTo at h1
    rw [if_pos rfl] at h1
    omega
  | i + 1, hi => by
    have h1 := h.from_ge hs hi
    have h2 := longOf_ok hth hbk hs (ax (px p s) (i + 1))
    have h3 := h.from_nn hth hbk hs i (by omega)
    unfold prevTo at h1
    rw [if_neg (by omega), Nat.add_sub_cancel] at h1
    omega
def sumW (f : ActD → Int) : List ActD → Int
  | [] => 0
  | a :: l => f a + sumW f l
theorem sumW_append (f : ActD → Int) : ∀ (x y : List ActD), sumW f (x ++ y) = sumW f x + sumW f y
  | [], y => by simp [sumW]
  | a :: x, y => by rw [List.cons_append, sumW, sumW, sumW_append f x y]; omega
theorem sumW_perm (f : ActD → Int) {x y : List ActD} (h : x.Perm y) : sumW f x = sumW f y := by
  induction h with
  | nil => rfl
  | cons a _ ih => rw [sumW, sumW, ih]
  | swap a b l => rw [sumW, sumW, sumW, sumW]; omega
  | trans _ _ h1 h2 => rw [h1, h2]
theorem sumW_const {f : ActD → Int} {c : Int} : ∀ {l : List ActD}, (∀ a ∈ l, f a = c) → sumW f l = l.length * c
  | [], _ => by simp [sumW]
  | a :: l, h => by
    rw [sumW, sumW_const (l := l) fun b hb => h b (by simp [hb]), h a (by simp), List.length_cons]
    push_cast
    rw [Int.add_mul, Int.one_mul, Int.add_comm]
theorem allActs_nodup (M : Nat) : (allActs M).Nodup := by
  unfold allActs
  refine List.nodup_append.2 ⟨?_, ?_, ?_⟩
  · refine List.Pairwise.map _ (fun a b hab h => hab ?_) List.nodup_range
    have := congrArg Prod.snd h
    dsimp only at this
    omega
  · refine List.Pairwise.map _ (fun a b hab h => hab ?_) List.nodup_range
    have := congrArg Prod.snd h
    dsimp only at this
    omega
  · intro x hx y hy e
    obtain ⟨i, _, rfl⟩ := List.mem_map.1 hx
    obtain ⟨j, _, rfl⟩ := List.mem_map.1 hy
    have := congrArg Prod.fst e
    dsimp only at this
    omega
theorem acts_perm {l : List ActD} (h : actsFault m l = 0) : l.Perm (allActs m) := by
  obtain ⟨h1, h2, h3, _⟩ := actsFault_ok h
  refine (List.perm_ext_iff_of_nodup h2 (allActs_nodup m)).2 fun a => ⟨fun ha => mem_allActs.2 (okTo_mem h1 a ha), fun ha => acts_full h1 h2 (by omega) (mem_allActs.1 ha)⟩
theorem sum_long {s : Nat} (h : actsFault m (px p s) = 0) : sumW (longOf th bk s) (px p s) = m * (ix th s + ix bk s) := by
  rw [sumW_perm _ (acts_perm h)]
  unfold allActs
  rw [sumW_append, sumW_const (c := ix th s), sumW_const (c := ix bk s), List.length_map, List.length_map, List.length_range, Int.mul_add]
  · intro a ha
    obtain ⟨i, _, rfl⟩ := List.mem_map.1 ha
    rfl
  · intro a ha
    obtain ⟨i, _, rfl⟩ := List.mem_map.1 ha
    rfl
theorem busy_append : ∀ (x y : List SpanD), busyL (x ++ y) = busyL x + busyL y
  | [], y => by simp [busyL]
  | a :: x, y => by rw [List.cons_append, busyL, busyL, busy_append x y]; omega
theorem TimesAre.busy_take (h : TimesAre p th bk X) {s : Nat} (hs : s < p.length) : ∀ i, i ≤ (px p s).length → busyL ((X s).take i) = sumW (longOf th bk s) ((px p s).take i) ∧ busyL ((X s).take i) ≤ prevTo (X s) i
  | 0, _ => by
    unfold prevTo
    rw [if_pos rfl, List.take_zero, List.take_zero]
    exact ⟨rfl, Int.le_refl _⟩
  | i + 1, hi => by
    obtain ⟨h1, h2⟩ := h.busy_take hs i (by omega)
    obtain ⟨h3, h4⟩ := h.from_ge hs (i := i) (by omega)
    have hl := h.len s hs
    rw [take_ax (l := X s) (by omega), take_ax (l := px p s) (by omega), busy_append, sumW_append, h1]
    have e1 : busyL [ax (X s) i] = longOf th bk s (ax (px p s) i) := by rw [busyL, busyL]; omega
    have e2 : sumW (longOf th bk s) [ax (px p s) i] = longOf th bk s (ax (px p s) i) := by rw [sumW, sumW]; omega
    refine ⟨by rw [e1, e2], ?_⟩
    rw [e1]
    rw [h1] at h2
    have e3 : prevTo (X s) (i + 1) = (ax (X s) i).2 := by unfold prevTo; rw [if_neg (by omega), Nat.add_sub_cancel]
    rw [e3]
    omega
theorem TimesAre.busy (h : TimesAre p th bk X) (hp : PlanOk p m) {s : Nat} (hs : s < p.length) : busyL (X s) = m * (ix th s + ix bk s) ∧ busyL (X s) ≤ prevTo (X s) (px p s).length := by
  obtain ⟨h1, h2⟩ := h.busy_take hs _ (Nat.le_refl _)
  rw [List.take_of_length_le (by rw [h.len s hs]; exact Nat.le_refl _)] at h1 h2
  rw [List.take_of_length_le (Nat.le_refl _), sum_long (hp.acts s hs)] at h1
  exact ⟨h1, h2⟩
/-! ### how long -/
theorem lngL_ge : ∀ {l : List SpanD} {t : Int}, t ≤ lngL t l ∧ ∀ x ∈ l, x.2 ≤ lngL t l
  | [], t => ⟨Int.le_refl _, fun x hx => nomatch hx⟩
  | a :: l, t => by
    obtain ⟨h1, h2⟩ := lngL_ge (l := l) (t := max t a.2)
    rw [lngL]
    refine ⟨by omega, fun x hx => ?_⟩
    rcases List.mem_cons.1 hx with rfl | hx
    · omega
    · exact h2 x hx
theorem lngL_le {c : Int} : ∀ {l : List SpanD} {t : Int}, t ≤ c → (∀ x ∈ l, x.2 ≤ c) → lngL t l ≤ c
  | [], t, h, _ => h
  | a :: l, t, h, h2 => by
    rw [lngL]
    exact lngL_le (by have := h2 a (by simp); omega) fun x hx => h2 x (by simp [hx])
theorem lngP_ge : ∀ {q : List (List SpanD)} {t : Int}, t ≤ lngP t q ∧ ∀ l ∈ q, ∀ x ∈ l, x.2 ≤ lngP t q
  | [], t => ⟨Int.le_refl _, fun x hx => nomatch hx⟩
  | l :: q, t => by
    obtain ⟨h1, h2⟩ := lngP_ge (q := q) (t := lngL t l)
    obtain ⟨h3, h4⟩ := lngL_ge (l := l) (t := t)
    rw [lngP]
    refine ⟨by omega, fun x hx y hy => ?_⟩
    rcases List.mem_cons.1 hx with rfl | hx
    · have := h4 y hy; omega
    · exact h2 x hx y hy
theorem lngP_le {c : Int} : ∀ {q : List (List SpanD)} {t : Int}, t ≤ c → (∀ l ∈ q, ∀ x ∈ l, x.2 ≤ c) → lngP t q ≤ c
  | [], t, h, _ => h
  | l :: q, t, h, h2 => by
    rw [lngP]
    exact lngP_le (lngL_le h fun x hx => h2 l (by simp) x hx) fun l' hl x hx => h2 l' (by simp [hl]) x hx
/-- the rows of so many stages -/
def rowsOf (n : Nat) (X : Nat → List SpanD) : List (List SpanD) := (List.range n).map X
theorem rows_px {n : Nat} {s : Nat} (hs : s < n) : px (rowsOf n X) s = X s := by simp [px, rowsOf, hs]
theorem rows_mem {n : Nat} {l : List SpanD} (h : l ∈ rowsOf n X) : ∃ s, s < n ∧ l = X s := by
  obtain ⟨s, hs, rfl⟩ := List.mem_map.1 h
  exact ⟨s, List.mem_range.1 hs, rfl⟩
theorem rows_long {n s i : Nat} (hs : s < n) (hi : i < (X s).length) : (ax (X s) i).2 ≤ lngP 0 (rowsOf n X) :=
  lngP_ge.2 (X s) (List.mem_map.2 ⟨s, List.mem_range.2 hs, rfl⟩) _ (List.mem_of_getElem? (ax_get hi))
theorem rows_le {n : Nat} {c : Int} (hc : 0 ≤ c) (h : ∀ s, s < n → ∀ i, i < (X s).length → (ax (X s) i).2 ≤ c) : lngP 0 (rowsOf n X) ≤ c := by
  refine lngP_le hc fun l hl x hx => ?_
  obtain ⟨s, hs, rfl⟩ := rows_mem hl
  obtain ⟨i, hi, rfl⟩ := mem_ax hx
  exact h s hs i hi
theorem TimesAre.least (h : TimesAre p th bk X) (hp : PlanOk p m) {s : Nat} (hs : s < p.length) : m * (ix th s + ix bk s) ≤ lngP 0 (rowsOf p.length X) := by
  obtain ⟨h1, h2⟩ := h.busy hp hs
  have h3 := hp.len hs
  have h4 := hp.few
  have h5 := rows_long (X := X) (n := p.length) (s := s) (i := 2 * m - 1) hs (by rw [h.len s hs]; omega)
  have e3 : prevTo (X s) (px p s).length = (ax (X s) (2 * m - 1)).2 := by unfold prevTo; rw [if_neg (by omega), h3]
  rw [e3] at h2
  omega
theorem TimesAre.rows_bd (h : TimesAre p th bk X) (hth : costOk th p.length) (hbk : costOk bk p.length) {s : Nat} (hs : s < p.length) {i : Nat} (hi : i < (px (rowsOf p.length X) s).length) :
    (0 ≤ (ax (px (rowsOf p.length X) s) i).1 ∧ (ax (px (rowsOf p.length X) s) i).1 ≤ lngP 0 (rowsOf p.length X)) ∧ 0 ≤ (ax (px (rowsOf p.length X) s) i).2 ∧ (ax (px (rowsOf p.length X) s) i).2 ≤ lngP 0 (rowsOf p.length X) := by
  rw [rows_px hs] at hi ⊢
  have h1 := rows_long (X := X) hs hi
  rw [h.len s hs] at hi
  have h2 := h.from_nn hth hbk hs i hi
  have h3 := (h.from_ge hs hi).2
  have h4 := longOf_ok hth hbk hs (ax (px p s) i)
  omega
theorem idle_ix {n : Nat} {all : Int} {s : Nat} (hs : s < n) : ix (idleOf all (rowsOf n X)) s = all - busyL (X s) := by simp [ix, idleOf, rowsOf, hs]
end
end Gal
