/- Plain: numbers read out of bytes; messages as bytes, and back. No program in sight. -/
import Derived.Test.YtgknjikjjklaiaaDoorPWire
import Derived.Test.YtgknjikjjklaiaaDoorBaseP
set_option linter.unusedVariables false
set_option linter.unusedSimpArgs false
namespace Gal
/-- a number's bytes, as they are read: from place at on, the i-th is the next, x stands already -/
def sevGo (bs : List Nat) (at0 : Nat) : Nat → Nat → Nat → Option (Nat × Nat)
  | 0, _, _ => none
  | f + 1, i, x => match bs[at0 + i]? with
    | none => none
    | some d => if d < 128 then (if d = 0 ∧ 0 < i then none else some (x + d * 2 ^ (7 * i), at0 + i + 1)) else sevGo bs at0 f (i + 1) (x + d % 128 * 2 ^ (7 * i))
/-- the number that stands at some place, and where it ends -/
def sevAt (bs : List Nat) (at0 : Nat) : Option (Nat × Nat) := sevGo bs at0 9 0 0
theorem sevGo_end {bs : List Nat} {at0 : Nat} : ∀ {f i x y e : Nat}, sevGo bs at0 f i x = some (y, e) → at0 + i < e ∧ e ≤ at0 + i + f ∧ e ≤ bs.length
  | 0, i, x, y, e, h => by cases h
  | f + 1, i, x, y, e, h => by
    rw [sevGo] at h
    cases hb : bs[at0 + i]? with
    | none => rw [hb] at h; cases h
    | some d =>
      rw [hb] at h
      dsimp only at h
      have hl : at0 + i < bs.length := by
        rcases Nat.lt_or_ge (at0 + i) bs.length with h1 | h1
        · exact h1
        · rw [List.getElem?_eq_none h1] at hb; cases hb
      by_cases h1 : d < 128
      · rw [if_pos h1] at h
        by_cases h2 : d = 0 ∧ 0 < i
        · rw [if_pos h2] at h; cases h
        · rw [if_neg h2] at h
          simp only [Option.some.injEq, Prod.mk.injEq] at h
          omega
      · rw [if_neg h1] at h
        have := sevGo_end h
        omega
theorem sevAt_end {bs : List Nat} {at0 y e : Nat} (h : sevAt bs at0 = some (y, e)) : at0 < e ∧ e ≤ at0 + 9 ∧ e ≤ bs.length := by
  have := sevGo_end h
  omega
theorem sevGo_lt {bs : List Nat} {at0 : Nat} : ∀ {f i x y e : Nat}, x < 2 ^ (7 * i) → sevGo bs at0 f i x = some (y, e) → y < 2 ^ (7 * (i + f))
  | 0, i, x, y, e, _, h => by cases h
  | f + 1, i, x, y, e, hx, h => by
    rw [sevGo] at h
    have hp : 2 ^ (7 * (i + 1)) = 128 * 2 ^ (7 * i) := by rw [show 7 * (i + 1) = 7 * i + 7 by omega, Nat.pow_add]; omega
    have hd : ∀ d, d < 128 → x + d * 2 ^ (7 * i) < 2 ^ (7 * (i + 1)) := fun d hd => by
      have h1 : d * 2 ^ (7 * i) ≤ 127 * 2 ^ (7 * i) := Nat.mul_le_mul_right _ (by omega)
      omega
    cases hb : bs[at0 + i]? with
    | none => rw [hb] at h; cases h
    | some d =>
      rw [hb] at h
      dsimp only at h
      by_cases h1 : d < 128
      · rw [if_pos h1] at h
        by_cases h2 : d = 0 ∧ 0 < i
        · rw [if_pos h2] at h; cases h
        · rw [if_neg h2] at h
          simp only [Option.some.injEq, Prod.mk.injEq] at h
          rw [← h.1]
          refine Nat.lt_of_lt_of_le (hd d h1) (Nat.pow_le_pow_right (by omega) (by omega))
      · rw [if_neg h1] at h
        have h3 := sevGo_lt (hd (d % 128) (by omega)) h
        rw [show i + 1 + f = i + (f + 1) by omega] at h3
        exact h3
theorem sevAt_lt {bs : List Nat} {at0 y e : Nat} (h : sevAt bs at0 = some (y, e)) : y < 2 ^ 63 := sevGo_lt (by decide) h
/-- reading on behind what was written -/
theorem sevGo_write {bs : List Nat} {at0 : Nat} : ∀ {f x i acc : Nat}, (∀ k b, (seven x)[k]? = some b → bs[at0 + i + k]? = some b) → (seven x).length ≤ f → (0 < i → 0 < x) → sevGo bs at0 f i acc = some (acc + x * 2 ^ (7 * i), at0 + i + (seven x).length)
  | 0, x, i, acc, _, hl, _ => by
    by_cases h : x < 128
    · rw [seven_low h] at hl; simp at hl
    · rw [seven_high h] at hl; simp at hl
  | f + 1, x, i, acc, hb, hl, h0 => by
    rw [sevGo]
    by_cases h : x < 128
    · have h1 := hb 0 x (by rw [seven_low h]; rfl)
      rw [Nat.add_zero] at h1
      rw [h1, seven_low h]
      dsimp only
      rw [if_pos h, if_neg (by omega)]
      rfl
    · have h1 := hb 0 (128 + x % 128) (by rw [seven_high h]; rfl)
      rw [Nat.add_zero] at h1
      rw [h1]
      dsimp only
      rw [if_neg (by omega)]
      rw [seven_high h] at hl
      simp only [List.length_cons] at hl
      rw [sevGo_write (x := x / 128) (fun k b hk => by
        have h2 := hb (k + 1) b (by rw [seven_high h]; exact hk)
        rw [show at0 + i + (k + 1) = at0 + (i + 1) + k by omega] at h2
        exact h2) (by omega) (by omega)]
      rw [seven_high h, List.length_cons]
      simp only [Option.some.injEq, Prod.mk.injEq]
      constructor
      · rw [show 7 * (i + 1) = 7 * i + 7 by omega, Nat.pow_add]
        have e1 : (128 + x % 128) % 128 = x % 128 := by omega
        rw [e1, Nat.add_assoc]
        congr 1
        have e2 : x = x % 128 + x / 128 * 128 := by omega
        have e3 : x / 128 * (2 ^ (7 * i) * 2 ^ 7) = (x / 128 * 128) * 2 ^ (7 * i) := by
          rw [show (2 : Nat) ^ 7 = 128 by decide, Nat.mul_comm (2 ^ (7 * i)) 128, Nat.mul_assoc]
        rw [e3, ← Nat.add_mul]
        congr 1
        omega
      · omega
theorem seven_len : ∀ {n x : Nat}, x < 128 ^ n → 0 < n → (seven x).length ≤ n
  | 0, x, _, h => by omega
  | n + 1, x, hx, _ => by
    by_cases h : x < 128
    · rw [seven_low h]; simp
    · rw [seven_high h, List.length_cons]
      have h1 : x / 128 < 128 ^ n := by rw [Nat.pow_succ] at hx; omega
      have hn : 0 < n := by
        rcases Nat.eq_zero_or_pos n with h2 | h2
        · subst h2; simp at h1; omega
        · exact h2
      have := seven_len h1 hn
      omega
theorem seven_pos (x : Nat) : 1 ≤ (seven x).length := by
  by_cases h : x < 128
  · rw [seven_low h]; simp
  · rw [seven_high h]; simp
theorem seven_9 {x : Nat} (h : x < 9223372036854775808) : (seven x).length ≤ 9 := seven_len (by omega) (by omega)
theorem sevAt_write {pre post : List Nat} {x : Nat} (h : x < 9223372036854775808) : sevAt (pre ++ seven x ++ post) pre.length = some (x, pre.length + (seven x).length) := by
  unfold sevAt
  rw [sevGo_write (x := x) (fun k b hk => by
    have hkl : k < (seven x).length := by
      rcases Nat.lt_or_ge k (seven x).length with h1 | h1
      · exact h1
      · rw [List.getElem?_eq_none h1] at hk; cases hk
    rw [Nat.add_zero, List.append_assoc, List.getElem?_append_right (by omega), Nat.add_sub_cancel_left, List.getElem?_append_left hkl]
    exact hk) (seven_9 h) (by omega)]
  simp
end Gal
