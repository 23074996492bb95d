/- Plain: the times of waves and turns, where all stages take the same. No program in sight. -/
import Derived.Test.YtjaepdkeldgikaaPClk2
set_option linter.unusedVariables false
set_option linter.unusedSimpArgs false
namespace Gal
/-- so many times there, so many times back -/
abbrev Co := Nat × Nat
def leCo (a b : Co) : Bool := decide (a.1 ≤ b.1 ∧ a.2 ≤ b.2)
def valCo (x y : Int) (c : Co) : Int := c.1 * x + c.2 * y
def waveCo (S M : Nat) (s : Nat) (a : ActD) : Co := if a.1 = 2 then (M + S - 1, S - 1 - s + a.2.toNat) else (a.2.toNat + s, 0)
def turnCo (S M : Nat) (s : Nat) (a : ActD) : Co := if a.1 = 2 then (S + a.2.toNat, S - 1 - s + a.2.toNat) else if a.2.toNat ≤ S - 1 - s then (s + a.2.toNat, 0) else (s + a.2.toNat, a.2.toNat)
def endCo (c : Nat → ActD → Co) (s : Nat) (a : ActD) : Co := if a.1 = 2 then ((c s a).1, (c s a).2 + 1) else ((c s a).1 + 1, (c s a).2)
def depCo (c : Nat → ActD → Co) (S s : Nat) (a : ActD) : Co := if a.1 = 2 then (if s + 1 = S then (0, 0) else endCo c (s + 1) a) else (if s = 0 then (0, 0) else endCo c (s - 1) a)
def chkAct (c : Nat → ActD → Co) (S M s : Nat) (P : Co) (a : ActD) : Bool :=
  leCo P (c s a) && leCo (depCo c S s a) (c s a) && (decide (P = c s a) || decide (depCo c S s a = c s a)) && leCo (endCo c s a) (M + S - 1, M + S - 1)
def chkRow (c : Nat → ActD → Co) (S M s : Nat) : Co → List ActD → Bool
  | _, [] => true
  | P, a :: l => chkAct c S M s P a && chkRow c S M s (endCo c s a) l
def chkPlan (c : Nat → ActD → Co) (S M : Nat) : Nat → PlanD → Bool
  | _, [] => true
  | s, l :: p => chkRow c S M s (0, 0) l && chkPlan c S M (s + 1) p
theorem waves_chk : ∀ S : Fin 6, ∀ M : Fin 12, chkPlan (waveCo (S.val + 1) (M.val + 1)) (S.val + 1) (M.val + 1) 0 (waveOf (S.val + 1) (M.val + 1)) = true := by decide +kernel
theorem turns_chk : ∀ S : Fin 6, ∀ M : Fin 12, chkPlan (turnCo (S.val + 1) (M.val + 1)) (S.val + 1) (M.val + 1) 0 (turnsOf (S.val + 1) (M.val + 1)) = true := by decide +kernel
theorem wave_chk {S M : Nat} (hS : 1 ≤ S ∧ S ≤ 6) (hM : 1 ≤ M ∧ M ≤ 12) : chkPlan (waveCo S M) S M 0 (waveOf S M) = true := by
  have h1 := waves_chk ⟨S - 1, by omega⟩ ⟨M - 1, by omega⟩
  simp only [show S - 1 + 1 = S by omega, show M - 1 + 1 = M by omega] at h1
  exact h1
theorem turn_chk {S M : Nat} (hS : 1 ≤ S ∧ S ≤ 6) (hM : 1 ≤ M ∧ M ≤ 12) : chkPlan (turnCo S M) S M 0 (turnsOf S M) = true := by
  have h1 := turns_chk ⟨S - 1, by omega⟩ ⟨M - 1, by omega⟩
  simp only [show S - 1 + 1 = S by omega, show M - 1 + 1 = M by omega] at h1
  exact h1
def prevCo (c : Nat → ActD → Co) (s : Nat) (l : List ActD) (i : Nat) : Co := if i = 0 then (0, 0) else endCo c s (ax l (i - 1))
theorem chkRow_at {c : Nat → ActD → Co} {S M s : Nat} : ∀ {l : List ActD} {P : Co} {i : Nat}, chkRow c S M s P l = true → i < l.length → chkAct c S M s (if i = 0 then P else endCo c s (ax l (i - 1))) (ax l i) = true
  | [], _, _, _, h => absurd h (Nat.not_lt_zero _)
  | a :: l, P, 0, h, _ => by
    rw [chkRow, Bool.and_eq_true] at h
    rw [if_pos rfl]
    exact h.1
  | a :: l, P, i + 1, h, hi => by
    rw [chkRow, Bool.and_eq_true] at h
    have h1 := chkRow_at (i := i) h.2 (by simpa using hi)
    rw [if_neg (by omega), Nat.add_sub_cancel]
    have e1 : ax (a :: l) (i + 1) = ax l i := rfl
    rw [e1]
    by_cases h0 : i = 0
    · subst h0
      rw [if_pos rfl] at h1
      exact h1
    · rw [if_neg h0] at h1
      have e2 : ax (a :: l) i = ax l (i - 1) := by
        obtain ⟨j, rfl⟩ : ∃ j, i = j + 1 := ⟨i - 1, by omega⟩
        rfl
      rw [e2]
      exact h1
theorem chkPlan_at {c : Nat → ActD → Co} {S M : Nat} : ∀ {p : PlanD} {r s : Nat}, chkPlan c S M r p = true → s < p.length → chkRow c S M (r + s) (0, 0) (px p s) = true
  | [], _, _, _, h => absurd h (Nat.not_lt_zero _)
  | l :: p, r, 0, h, _ => by
    rw [chkPlan, Bool.and_eq_true] at h
    exact h.1
  | l :: p, r, s + 1, h, hs => by
    rw [chkPlan, Bool.and_eq_true] at h
    have h1 := chkPlan_at (s := s) h.2 (by simpa using hs)
    rw [show r + 1 + s = r + (s + 1) by omega] at h1
    exact h1
theorem chk_at {c : Nat → ActD → Co} {S M : Nat} {p : PlanD} (h : chkPlan c S M 0 p = true) {s i : Nat} (hs : s < p.length) (hi : i < (px p s).length) : chkAct c S M s (prevCo c s (px p s) i) (ax (px p s) i) = true := by
  have h1 := chkPlan_at h hs
  rw [Nat.zero_add] at h1
  exact chkRow_at h1 hi
section
variable {c : Nat → ActD → Co} {S M : Nat} {p : PlanD} {x y : Int} {th bk : List Int}
def closedX (c : Nat → ActD → Co) (p : PlanD) (x y : Int) (s : Nat) : List SpanD := (px p s).map fun a => (valCo x y (c s a), valCo x y (endCo c s a))
theorem closed_ax {s i : Nat} (hi : i < (px p s).length) : ax (closedX c p x y s) i = (valCo x y (c s (ax (px p s) i)), valCo x y (endCo c s (ax (px p s) i))) := by
  have h1 := ax_get hi
  unfold closedX ax at *
  rw [List.getElem?_map, h1]
  rfl
theorem closed_len {s : Nat} : (closedX c p x y s).length = (px p s).length := by simp [closedX]
theorem valCo_le (hx : 0 ≤ x) (hy : 0 ≤ y) {a b : Co} (h : leCo a b = true) : valCo x y a ≤ valCo x y b := by
  unfold leCo at h
  obtain ⟨h1, h2⟩ := of_decide_eq_true h
  unfold valCo
  have h3 : (a.1 : Int) * x ≤ (b.1 : Int) * x := Int.mul_le_mul_of_nonneg_right (by omega) hx
  have h4 : (a.2 : Int) * y ≤ (b.2 : Int) * y := Int.mul_le_mul_of_nonneg_right (by omega) hy
  omega
theorem val_end {s : Nat} {a : ActD} (hx : ix th s = x) (hy : ix bk s = y) : valCo x y (endCo c s a) = valCo x y (c s a) + longOf th bk s a := by
  unfold endCo longOf valCo
  by_cases h : a.1 = 2
  · rw [if_pos h, if_pos h, hy]
    dsimp only
    push_cast
    rw [Int.add_mul, Int.one_mul]
    omega
  · rw [if_neg h, if_neg h, hx]
    dsimp only
    push_cast
    rw [Int.add_mul, Int.one_mul]
    omega
theorem closed_are (hp : PlanOk p M) (hS : p.length = S) (h : chkPlan c S M 0 p = true) (hx : 0 ≤ x) (hy : 0 ≤ y) (hth : ∀ s, s < S → ix th s = x) (hbk : ∀ s, s < S → ix bk s = y) : TimesAre p th bk (closedX c p x y) := by
  refine ⟨fun s _ => closed_len, fun s hs i hi => ?_⟩
  have h1 := chk_at h hs hi
  unfold chkAct at h1
  simp only [Bool.and_eq_true, Bool.or_eq_true, decide_eq_true_eq] at h1
  obtain ⟨⟨⟨h2, h3⟩, h4⟩, _⟩ := h1
  have hpv : prevTo (closedX c p x y s) i = valCo x y (prevCo c s (px p s) i) := by
    unfold prevTo prevCo
    by_cases h0 : i = 0
    · rw [if_pos h0, if_pos h0]; simp [valCo]
    · rw [if_neg h0, if_neg h0, closed_ax (by omega)]
  have g2 := valCo_le hx hy h2
  have g3 := valCo_le hx hy h3
  have hact : actOk M (ax (px p s) i) := (actsFault_ok (hp.acts s hs)).1 i hi
  refine ⟨valCo x y (depCo c S s (ax (px p s) i)), ?_, ?_⟩
  · unfold DepTo depCo
    have hmem : ∀ r, r < p.length → ∃ j, j < (closedX c p x y r).length ∧ isAt p r (ax (px p s) i) j ∧ valCo x y (endCo c r (ax (px p s) i)) = (ax (closedX c p x y r) j).2 := fun r hr => by
      have g := actsFault_ok (hp.acts r hr)
      obtain ⟨j, hj, e⟩ := mem_ax (acts_full g.1 g.2.1 (by omega) hact)
      exact ⟨j, by rw [closed_len]; exact hj, ⟨hj, e⟩, by rw [closed_ax hj, e]⟩
    rw [hS]
    by_cases k2 : (ax (px p s) i).1 = 2
    · rw [if_pos k2, if_pos k2]
      by_cases e : s + 1 = S
      · rw [if_pos e, if_pos e]; simp [valCo]
      · rw [if_neg e, if_neg e]
        exact hmem (s + 1) (by omega)
    · rw [if_neg k2, if_neg k2]
      by_cases e : s = 0
      · rw [if_pos e, if_pos e]; simp [valCo]
      · rw [if_neg e, if_neg e]
        exact hmem (s - 1) (by omega)
  · rw [closed_ax hi, hpv, val_end (hth s (by omega)) (hbk s (by omega))]
    have hmax : max (valCo x y (prevCo c s (px p s) i)) (valCo x y (depCo c S s (ax (px p s) i))) = valCo x y (c s (ax (px p s) i)) := by
      rcases h4 with h4 | h4 <;> rw [h4] at * <;> omega
    rw [hmax]
theorem closed_long (hp : PlanOk p M) (hS : p.length = S) (h : chkPlan c S M 0 p = true) (hx : 0 ≤ x) (hy : 0 ≤ y) (hl : endCo c 0 (2, ((M - 1 : Nat) : Int)) = (M + S - 1, M + S - 1)) : lngP 0 (rowsOf S (closedX c p x y)) = valCo x y (M + S - 1, M + S - 1) := by
  obtain ⟨⟨m1, _⟩, n1, _⟩ := hp.few
  apply Int.le_antisymm
  · refine rows_le (by unfold valCo; dsimp only; have := Int.mul_nonneg (Int.natCast_nonneg (M + S - 1)) hx; have := Int.mul_nonneg (Int.natCast_nonneg (M + S - 1)) hy; omega) fun s hs i hi => ?_
    rw [closed_len] at hi
    rw [closed_ax hi]
    have h1 := chk_at h (by omega) hi
    unfold chkAct at h1
    simp only [Bool.and_eq_true] at h1
    exact valCo_le hx hy h1.2
  · have g := actsFault_ok (hp.acts 0 (by omega))
    obtain ⟨j, hj, e⟩ := mem_ax (acts_full g.1 g.2.1 (by omega) (a := (2, ((M - 1 : Nat) : Int))) ⟨Or.inr rfl, by dsimp only; omega, by dsimp only; omega⟩)
    have h1 := rows_long (X := closedX c p x y) (n := S) (s := 0) (i := j) (by omega) (by rw [closed_len]; exact hj)
    rw [closed_ax hj, e, hl] at h1
    exact h1
theorem wave_last (hS : 1 ≤ S) (hM : 1 ≤ M) : endCo (waveCo S M) 0 (2, ((M - 1 : Nat) : Int)) = (M + S - 1, M + S - 1) := by
  unfold endCo waveCo
  simp only [if_pos rfl, Int.toNat_natCast, Prod.mk.injEq, true_and, ↓reduceIte]
  omega
theorem turn_last (hS : 1 ≤ S) (hM : 1 ≤ M) : endCo (turnCo S M) 0 (2, ((M - 1 : Nat) : Int)) = (M + S - 1, M + S - 1) := by
  unfold endCo turnCo
  simp only [Int.toNat_natCast, Prod.mk.injEq, ↓reduceIte]
  omega
/-- how long waves and turns are -/
theorem even_long {X : Nat → List SpanD} (hp : PlanOk p M) (hS : p.length = S) (h : chkPlan c S M 0 p = true) (hx : 0 ≤ x) (hy : 0 ≤ y) (hl : endCo c 0 (2, ((M - 1 : Nat) : Int)) = (M + S - 1, M + S - 1)) (hth : ∀ s, s < S → ix th s = x) (hbk : ∀ s, s < S → ix bk s = y) (hX : TimesAre p th bk X) :
    lngP 0 (rowsOf S X) = ((M + S - 1 : Nat) : Int) * (x + y) ∧ ∀ s, s < S → ix (idleOf (lngP 0 (rowsOf S X)) (rowsOf S X)) s = ((S - 1 : Nat) : Int) * (x + y) := by
  have hu := times_uniq hp hX (closed_are hp hS h hx hy hth hbk)
  have e1 : rowsOf S X = rowsOf S (closedX c p x y) := List.map_congr_left fun s hs => hu s (by have := List.mem_range.1 hs; omega)
  have h1 : lngP 0 (rowsOf S X) = ((M + S - 1 : Nat) : Int) * (x + y) := by
    rw [e1, closed_long hp hS h hx hy hl]
    unfold valCo
    rw [Int.mul_add]
  refine ⟨h1, fun s hs => ?_⟩
  rw [idle_ix hs, h1, (hX.busy hp (s := s) (by omega)).1, hth s hs, hbk s hs]
  have h2 := hp.few
  have : ((M + S - 1 : Nat) : Int) = (M : Int) + ((S - 1 : Nat) : Int) := by omega
  rw [this, Int.add_mul]
  omega
end
end Gal
