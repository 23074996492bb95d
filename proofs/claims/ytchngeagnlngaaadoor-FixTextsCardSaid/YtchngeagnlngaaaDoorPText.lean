/- Plain law of numbers' texts: textOf, and what reads it back. -/
import Derived.Lib.ItoaMem
import Derived.Lib.CutLaws
import Derived.Lib.IndexLaws
set_option linter.unusedVariables false
set_option linter.unusedSimpArgs false
namespace Gal
open Go.Lib
/-- the digits behind the point -/
def fr : Nat → Nat → List UInt8
  | 0, _ => []
  | k + 1, r => if r = 0 then [] else UInt8.ofNat (48 + r * 10 / 256) :: fr k (r * 10 % 256)
def frac (r : Nat) : List UInt8 := fr 8 r
/-- the value of a row of digits -/
def dv (l : List UInt8) : Nat := l.foldl (fun a c => 10 * a + (c.toNat - 48)) 0
theorem dv_snoc (l : List UInt8) (c : UInt8) : dv (l ++ [c]) = 10 * dv l + (c.toNat - 48) := by simp [dv]
/-- the value of k digits behind the point: what is lacking is 0 -/
def pv (l : List UInt8) : Nat → Nat
  | 0 => 0
  | i + 1 => 10 * pv l i + (if h : i < l.length then (l[i]'h).toNat - 48 else 0)
def isDig (c : UInt8) : Prop := 48 ≤ c.toNat ∧ c.toNat ≤ 57
instance (c : UInt8) : Decidable (isDig c) := by unfold isDig; infer_instance
theorem frac_all : ∀ r : Fin 256, (frac r.val).length ≤ 8 ∧ pv (frac r.val) 8 * 256 / 100000000 = r.val ∧ (∀ c ∈ frac r.val, isDig c) := by decide +kernel
theorem frac_step0 : ∀ r : Fin 256, 0 < r.val → frac r.val = UInt8.ofNat (48 + r.val * 10 / 256) :: frac (r.val * 10 % 256) ∧ (frac (r.val * 10 % 256)).length < (frac r.val).length := by decide +kernel
theorem frac_len {r : Nat} (h : r < 256) : (frac r).length ≤ 8 := (frac_all ⟨r, h⟩).1
theorem frac_val {r : Nat} (h : r < 256) : pv (frac r) 8 * 256 / 100000000 = r := (frac_all ⟨r, h⟩).2.1
theorem frac_dig {r : Nat} (h : r < 256) : ∀ c ∈ frac r, isDig c := (frac_all ⟨r, h⟩).2.2
theorem frac_step {r : Nat} (h : r < 256) (h0 : 0 < r) : frac r = UInt8.ofNat (48 + r * 10 / 256) :: frac (r * 10 % 256) ∧ (frac (r * 10 % 256)).length < (frac r).length := frac_step0 ⟨r, h⟩ h0
theorem frac_zero : frac 0 = [] := rfl
theorem frac_ne {r : Nat} (h : r < 256) (h0 : 0 < r) : frac r ≠ [] := by rw [(frac_step h h0).1]; simp
theorem dig_of (u : Nat) (h : u < 10) : (UInt8.ofNat (48 + u)).toNat = 48 + u := by
  simp only [UInt8.toNat_ofNat']
  omega
theorem dd_dig (u : Nat) : ∀ c ∈ decDigits u, isDig c := by
  induction u using Nat.strongRecOn with
  | _ u ih =>
    intro c hc
    rw [decDigits] at hc
    by_cases h : u < 10
    · rw [dif_pos h] at hc
      obtain rfl := List.mem_singleton.1 hc
      unfold isDig
      rw [dig_of u h]
      omega
    · rw [dif_neg h] at hc
      rcases List.mem_append.1 hc with hc | hc
      · exact ih (u / 10) (by omega) c hc
      · obtain rfl := List.mem_singleton.1 hc
        unfold isDig
        rw [dig_of (u % 10) (by omega)]
        omega
theorem dd_val (u : Nat) : dv (decDigits u) = u := by
  induction u using Nat.strongRecOn with
  | _ u ih =>
    rw [decDigits]
    by_cases h : u < 10
    · rw [dif_pos h]
      show 10 * 0 + ((UInt8.ofNat (48 + u)).toNat - 48) = u
      rw [dig_of u h]; omega
    · rw [dif_neg h, dv_snoc, ih (u / 10) (by omega), dig_of (u % 10) (by omega)]
      omega
theorem dd_ne (u : Nat) : decDigits u ≠ [] := by
  rw [decDigits]
  by_cases h : u < 10
  · rw [dif_pos h]; simp
  · rw [dif_neg h]; simp
theorem dd_len : ∀ (k u : Nat), u < 10 ^ (k + 1) → (decDigits u).length ≤ k + 1
  | 0, u, h => by
    rw [decDigits, dif_pos (by simpa using h)]
    simp
  | k + 1, u, h => by
    rw [decDigits]
    by_cases h1 : u < 10
    · rw [dif_pos h1]; simp
    · rw [dif_neg h1, List.length_append]
      have h2 : u / 10 < 10 ^ (k + 1) := by
        rw [Nat.pow_succ] at h
        omega
      have := dd_len k (u / 10) h2
      simp
      omega
/-- the text of a number that is not below 0 -/
def natText (n : Nat) : List UInt8 := decDigits (n / 256) ++ (if n % 256 = 0 then [] else 46 :: frac (n % 256))
/-- the text of a number -/
def textOf (x : Int) : List UInt8 := if x < 0 then 45 :: natText x.natAbs else natText x.toNat
/-- what stands ahead of the point, and behind it -/
def wholeOf (t : List UInt8) : List UInt8 := (cut t [46]).1
def restOf (t : List UInt8) : List UInt8 := (cut t [46]).2.1
theorem indexByte_at {c : UInt8} : ∀ {a b : List UInt8}, (∀ x ∈ a, x ≠ c) → indexByte (a ++ c :: b) c = a.length
  | [], b, _ => by simp [indexByte]
  | x :: a, b, h => by
    have hx : x ≠ c := h x (by simp)
    have ih := indexByte_at (a := a) (b := b) (fun y hy => h y (by simp [hy]))
    show (if (x == c) = true then (0 : Int) else if (indexByte (a ++ c :: b) c == -1) = true then -1 else indexByte (a ++ c :: b) c + 1) = _
    rw [ih]
    have h1 : (x == c) = false := by simpa using hx
    have h2 : (((a.length : Nat) : Int) == -1) = false := by simp
    rw [h1, h2]
    simp
theorem indexByte_nil {c : UInt8} : ∀ {a : List UInt8}, (∀ x ∈ a, x ≠ c) → indexByte a c = -1
  | [], _ => rfl
  | x :: a, h => by
    have hx : x ≠ c := h x (by simp)
    have ih := indexByte_nil (a := a) (fun y hy => h y (by simp [hy]))
    show (if (x == c) = true then (0 : Int) else if (indexByte a c == -1) = true then -1 else indexByte a c + 1) = _
    rw [ih]
    have h1 : (x == c) = false := by simpa using hx
    rw [h1]
    simp
theorem cut_point {a b : List UInt8} (h : ∀ x ∈ a, x ≠ 46) : cut (a ++ 46 :: b) [46] = (a, b, true) := by
  unfold cut
  rw [index_one, indexByte_at h, if_pos (by omega)]
  simp
theorem cut_none {a : List UInt8} (h : ∀ x ∈ a, x ≠ 46) : cut a [46] = (a, [], false) := by
  unfold cut
  rw [index_one, indexByte_nil h, if_neg (by omega)]
theorem dig_ne {c : UInt8} (h : isDig c) : c ≠ 46 ∧ c ≠ 45 := by
  unfold isDig at h
  constructor
  · rintro rfl
    have : (46 : UInt8).toNat = 46 := rfl
    omega
  · rintro rfl
    have : (45 : UInt8).toNat = 45 := rfl
    omega
theorem natText_cut (n : Nat) : wholeOf (natText n) = decDigits (n / 256) ∧ restOf (natText n) = frac (n % 256) := by
  unfold wholeOf restOf natText
  have hd : ∀ x ∈ decDigits (n / 256), x ≠ 46 := fun x hx => (dig_ne (dd_dig _ x hx)).1
  by_cases h : n % 256 = 0
  · rw [if_pos h, List.append_nil, cut_none hd, h]
    exact ⟨rfl, rfl⟩
  · rw [if_neg h, cut_point hd]
    exact ⟨rfl, rfl⟩
theorem natText_head (n : Nat) : ∃ c l, natText n = c :: l ∧ isDig c := by
  unfold natText
  cases hd : decDigits (n / 256) with
  | nil => exact absurd hd (dd_ne _)
  | cons c l => exact ⟨c, _, rfl, dd_dig _ c (by rw [hd]; simp)⟩
theorem textOf_ne (x : Int) : textOf x ≠ [] := by
  unfold textOf
  split
  · simp
  · obtain ⟨c, l, h, _⟩ := natText_head x.toNat
    rw [h]; simp
/-- the number that a text without a sign says -/
def natVal (t : List UInt8) : Nat := dv (wholeOf t) * 256 + pv (restOf t) 8 * 256 / 100000000
theorem natVal_text (n : Nat) : natVal (natText n) = n := by
  unfold natVal
  rw [(natText_cut n).1, (natText_cut n).2, dd_val, frac_val (Nat.mod_lt _ (by decide))]
  omega
/-- the sign and what stands behind it -/
def signed (s : List UInt8) : Bool := hasPrefix s [45]
def bare (s : List UInt8) : List UInt8 := if signed s then s.drop 1 else s
def unText (s : List UInt8) : Int := if signed s then -(natVal (bare s) : Int) else natVal (bare s)
theorem signed_text (x : Int) : signed (textOf x) = decide (x < 0) ∧ bare (textOf x) = natText x.natAbs := by
  unfold bare signed textOf
  by_cases h : x < 0
  · rw [if_pos h]
    have e : hasPrefix (45 :: natText x.natAbs) [45] = true := by simp [hasPrefix, List.isPrefixOf]
    rw [e]
    simp [h]
  · rw [if_neg h]
    obtain ⟨c, l, e, hc⟩ := natText_head x.toNat
    have e2 : hasPrefix (natText x.toNat) [45] = false := by
      rw [e]
      have := (dig_ne hc).2
      simp [hasPrefix, List.isPrefixOf]
      exact fun q => this q.symm
    rw [e2]
    simp [h]
    congr 1
    omega
theorem unText_text (x : Int) : unText (textOf x) = x := by
  unfold unText
  rw [(signed_text x).1, (signed_text x).2, natVal_text]
  by_cases h : x < 0
  · simp [h]; omega
  · simp [h]; omega
theorem textOf_inj {x y : Int} (h : textOf x = textOf y) : x = y := by
  have := congrArg unText h
  rwa [unText_text, unText_text] at this
end Gal
