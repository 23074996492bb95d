/- Plain: an eye that stays where it could not read; what comes of it. No program in sight. -/
import Derived.Test.YtgknjikjjklaiaaDoorPKeep
set_option linter.unusedVariables false
set_option linter.unusedSimpArgs false
namespace Gal
/-- a number is read from at0 on, to at1; ok, ok1: could all be read, ahead and behind -/
def EyeN (bs : List Nat) (at0 at1 : Nat) (ok ok1 : Bool) (v : Nat) : Prop := (ok = true ∧ ok1 = true ∧ sevAt bs at0 = some (v, at1)) ∨ (ok1 = false ∧ v = 0 ∧ (ok = true → sevAt bs at0 = none))
def EyeM (bs : List Nat) (at0 at1 : Nat) (ok ok1 : Bool) (m : Mat) : Prop := (ok = true ∧ ok1 = true ∧ matRd bs at0 = some (m, at1)) ∨ (ok1 = false ∧ (ok = true → matRd bs at0 = none))
def EyeP (bs : List Nat) (at0 at1 : Nat) (ok ok1 : Bool) (l : Lay) (v : Grd) : Prop := (ok = true ∧ ok1 = true ∧ partRd bs at0 = some (l, v, at1)) ∨ (ok1 = false ∧ (ok = true → partRd bs at0 = none))
/-- so many layers and speeds -/
def EyeL (bs : List Nat) (at0 k at1 : Nat) (ok ok1 : Bool) (N : List Lay) (V : List Grd) : Prop := (ok = true ∧ ok1 = true ∧ laysRd bs at0 k = some (N, V, at1)) ∨ (ok1 = false ∧ (ok = true → laysRd bs at0 k = none))
section
variable {bs : List Nat} {at0 at1 at2 at3 at4 at5 at6 k : Nat} {ok ok1 ok2 ok3 ok4 ok5 ok6 : Bool} {r c v : Nat}
theorem EyeN.small (h : EyeN bs at0 at1 ok ok1 v) : v < 9223372036854775808 := by
  rcases h with ⟨_, _, h⟩ | ⟨_, rfl, _⟩
  · exact sevAt_lt h
  · decide
theorem EyeN.zero (h : EyeN bs at0 at1 ok false v) : v = 0 := by
  rcases h with ⟨_, h, _⟩ | ⟨_, h, _⟩
  · cases h
  · exact h
/-- the numbers of the cells, one more -/
def EyeC (bs : List Nat) (cnt at0 at1 : Nat) (ok ok1 : Bool) (vals : List Nat) : Prop := (ok = true → RdN bs cnt at0 at1 ok1 vals) ∧ (ok = false → ok1 = false)
theorem EyeC.start (bs : List Nat) (at0 : Nat) (ok : Bool) : EyeC bs 0 at0 at0 ok ok [] := ⟨fun h => by rw [h]; exact RdN.start bs at0, fun h => h⟩
theorem EyeC.step {cnt : Nat} {vals : List Nat} (h : EyeC bs cnt at0 at1 ok ok1 vals) (h2 : EyeN bs at1 at2 ok1 ok2 v) : EyeC bs (cnt + 1) at0 at2 ok ok2 (vals ++ [v]) := by
  refine ⟨fun h0 => ?_, fun h0 => ?_⟩
  · have h3 := h.1 h0
    rcases h2 with ⟨e1, e2, e3⟩ | ⟨e1, e2, e3⟩
    · exact h3.step (Or.inl ⟨e3, by rw [e1, e2]⟩)
    · rcases h3 with ⟨h4, h5⟩ | ⟨h4, h5⟩
      · exact RdN.step (Or.inl ⟨h4, h5⟩) (Or.inr ⟨e3 h5, e1⟩)
      · exact Or.inr ⟨by rw [readN_add, h4], e1⟩
  · have h3 := h.2 h0
    rcases h2 with ⟨e1, _⟩ | ⟨e1, _⟩
    · rw [h3] at e1; cases e1
    · exact e1
theorem EyeM.big {m : Mat} (h1 : EyeN bs at0 at1 ok ok1 r) (h2 : EyeN bs at1 at2 ok1 ok2 c) (hb : 24 < r ∨ 12 < c) : EyeM bs at0 at2 ok false m := by
  refine Or.inr ⟨rfl, fun h0 => ?_⟩
  unfold matRd
  rcases h1 with ⟨_, e1, e2⟩ | ⟨_, _, e2⟩
  · rw [e2]
    dsimp only
    rcases h2 with ⟨_, _, e3⟩ | ⟨_, _, e3⟩
    · rw [e3]
      exact if_pos hb
    · rw [e3 e1]
  · rw [e2 h0]
theorem EyeM.mk {cells : List Nat} (h1 : EyeN bs at0 at1 ok ok1 r) (h2 : EyeN bs at1 at2 ok1 ok2 c) (hb : ¬ (24 < r ∨ 12 < c)) (h3 : EyeC bs (r * c) at2 at3 ok2 ok3 cells) : EyeM bs at0 at3 ok ok3 ⟨r, c, cells.map zagOf⟩ := by
  rcases h1 with ⟨e0, e1, e2⟩ | ⟨e0, e1, e2⟩
  · rcases h2 with ⟨_, e4, e3⟩ | ⟨e4, _, e3⟩
    · rcases h3.1 e4 with ⟨e5, e6⟩ | ⟨e5, e6⟩
      · refine Or.inl ⟨e0, e6, ?_⟩
        unfold matRd
        rw [e2]; dsimp only; rw [e3]; dsimp only
        rw [if_neg hb, e5]
      · refine Or.inr ⟨e6, fun _ => ?_⟩
        unfold matRd
        rw [e2]; dsimp only; rw [e3]; dsimp only
        rw [if_neg hb, e5]
    · refine Or.inr ⟨h3.2 e4, fun _ => ?_⟩
      unfold matRd
      rw [e2]; dsimp only; rw [e3 e1]
  · have e4 : ok2 = false := by
      rcases h2 with ⟨e4, _⟩ | ⟨e4, _⟩
      · rw [e0] at e4; cases e4
      · exact e4
    refine Or.inr ⟨h3.2 e4, fun h => ?_⟩
    unfold matRd
    rw [e2 h]
theorem EyeM.false {m : Mat} (h : EyeM bs at0 at1 false ok1 m) : ok1 = false := by
  rcases h with ⟨h, _⟩ | ⟨h, _⟩
  · cases h
  · exact h
theorem EyeP.mk {kd : Nat} {W B vW vB : Mat} (h0 : EyeN bs at0 at1 ok ok1 kd) (h1 : EyeM bs at1 at2 ok1 ok2 W) (h2 : EyeM bs at2 at3 ok2 ok3 B) (h3 : EyeM bs at3 at4 ok3 ok4 vW) (h4 : EyeM bs at4 at5 ok4 ok5 vB) :
    EyeP bs at0 at5 ok ok5 ⟨kd, W, B⟩ ⟨vW, vB⟩ := by
  cases ok with
  | false =>
    refine Or.inr ⟨?_, fun h => by cases h⟩
    have e0 : ok1 = false := by
      rcases h0 with ⟨h, _⟩ | ⟨h, _⟩
      · cases h
      · exact h
    subst e0
    have := h1.false; subst this
    have := h2.false; subst this
    have := h3.false; subst this
    exact h4.false
  | true =>
    unfold EyeP partRd
    rcases h0 with ⟨_, rfl, e0⟩ | ⟨rfl, _, e0⟩
    · rw [e0]; dsimp only
      rcases h1 with ⟨_, rfl, e1⟩ | ⟨rfl, e1⟩
      · rw [e1]; dsimp only
        rcases h2 with ⟨_, rfl, e2⟩ | ⟨rfl, e2⟩
        · rw [e2]; dsimp only
          rcases h3 with ⟨_, rfl, e3⟩ | ⟨rfl, e3⟩
          · rw [e3]; dsimp only
            rcases h4 with ⟨_, rfl, e4⟩ | ⟨rfl, e4⟩
            · rw [e4]; exact Or.inl ⟨rfl, rfl, rfl⟩
            · rw [e4 rfl]; exact Or.inr ⟨rfl, fun _ => rfl⟩
          · rw [e3 rfl]; exact Or.inr ⟨h4.false, fun _ => rfl⟩
        · rw [e2 rfl]
          have := h3.false; subst this
          exact Or.inr ⟨h4.false, fun _ => rfl⟩
      · rw [e1 rfl]
        have := h2.false; subst this
        have := h3.false; subst this
        exact Or.inr ⟨h4.false, fun _ => rfl⟩
    · rw [e0 rfl]
      have := h1.false; subst this
      have := h2.false; subst this
      have := h3.false; subst this
      exact Or.inr ⟨h4.false, fun _ => rfl⟩
theorem EyeL.start (bs : List Nat) (at0 : Nat) (ok : Bool) : EyeL bs at0 0 at0 ok ok [] [] := by
  cases ok with
  | true => exact Or.inl ⟨rfl, rfl, rfl⟩
  | false => exact Or.inr ⟨rfl, fun h => by cases h⟩
theorem EyeL.step {N : List Lay} {V : List Grd} {l : Lay} {g : Grd} (h : EyeL bs at0 k at1 ok ok1 N V) (h2 : EyeP bs at1 at2 ok1 ok2 l g) : EyeL bs at0 (k + 1) at2 ok ok2 (N ++ [l]) (V ++ [g]) := by
  unfold EyeL laysRd
  rcases h with ⟨rfl, rfl, h⟩ | ⟨rfl, h⟩
  · rw [h]; dsimp only
    rcases h2 with ⟨_, rfl, h2⟩ | ⟨rfl, h2⟩
    · rw [h2]; exact Or.inl ⟨rfl, rfl, rfl⟩
    · rw [h2 rfl]; exact Or.inr ⟨rfl, fun _ => rfl⟩
  · rcases h2 with ⟨h2, _⟩ | ⟨rfl, _⟩
    · cases h2
    · refine Or.inr ⟨rfl, fun h0 => by rw [h h0]⟩
/-- the whole body -/
theorem body_big {steps n : Nat} (h1 : EyeN bs 2 at1 true ok1 steps) (h2 : EyeN bs at1 at2 ok1 ok2 n) (hn : 12 < n) : bodyRd bs = none := by
  unfold bodyRd
  rcases h1 with ⟨_, rfl, h1⟩ | ⟨rfl, _, h1⟩
  · rw [h1]; dsimp only
    rcases h2 with ⟨_, rfl, h2⟩ | ⟨rfl, _, h2⟩
    · rw [h2]; exact if_pos hn
    · rw [h2 rfl]
  · rw [h1 rfl]
theorem body_is {steps n : Nat} {N : List Lay} {V : List Grd} (h1 : EyeN bs 2 at1 true ok1 steps) (h2 : EyeN bs at1 at2 ok1 ok2 n) (hn : ¬ 12 < n) (h3 : EyeL bs at2 n at3 ok2 ok3 N V) :
    bodyRd bs = if ok3 = false ∨ at3 ≠ bs.length ∨ (Sta.mk N V steps).fault ≠ 0 then none else some ⟨N, V, steps⟩ := by
  unfold bodyRd
  rcases h1 with ⟨_, rfl, h1⟩ | ⟨rfl, _, h1⟩
  · rw [h1]; dsimp only
    rcases h2 with ⟨_, rfl, h2⟩ | ⟨rfl, _, h2⟩
    · rw [h2]; dsimp only
      rw [if_neg hn]
      rcases h3 with ⟨_, rfl, h3⟩ | ⟨rfl, h3⟩
      · rw [h3]; dsimp only
        simp
      · rw [h3 rfl]; simp
    · rw [h2 rfl]
      have : ok3 = false := by
        rcases h3 with ⟨h, _⟩ | ⟨h, _⟩
        · cases h
        · exact h
      rw [if_pos (Or.inl this)]
  · rw [h1 rfl]
    have e2 : ok2 = false := by
      rcases h2 with ⟨h, _⟩ | ⟨h, _⟩
      · cases h
      · exact h
    subst e2
    have : ok3 = false := by
      rcases h3 with ⟨h, _⟩ | ⟨h, _⟩
      · cases h
      · exact h
    rw [if_pos (Or.inl this)]
end
end Gal
