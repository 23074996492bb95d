/- Plain: numbers by seven digits at a time, numbers with a sign, sums of bytes. No program in sight. -/
import Derived.Test.YtgknjikjjklaiaaDoorJPlain
import Derived.Laws.BitsAllLaws
set_option linter.unusedVariables false
set_option linter.unusedSimpArgs false
namespace Gal
/-- a number by seven digits at a time, the least ones first -/
def seven (x : Nat) : List Nat := if h : x < 128 then [x] else (128 + x % 128) :: seven (x / 128)
termination_by x
decreasing_by omega
theorem seven_low {x : Nat} (h : x < 128) : seven x = [x] := by rw [seven, dif_pos h]
theorem seven_high {x : Nat} (h : ¬ x < 128) : seven x = (128 + x % 128) :: seven (x / 128) := by rw [seven, dif_neg h]
theorem seven_byte : ∀ (n x : Nat), x < n → ∀ b ∈ seven x, b < 256 := by
  intro n
  induction n with
  | zero => intro x hx; omega
  | succ n ih =>
    intro x hx b hb
    by_cases h : x < 128
    · rw [seven_low h] at hb
      simp at hb
      omega
    · rw [seven_high h] at hb
      rcases List.mem_cons.1 hb with rfl | hb
      · omega
      · exact ih (x / 128) (by omega) b hb
/-- a number with its sign -/
def zigOf (x : Int) : Nat := if 0 ≤ x then (2 * x).toNat else (-2 * x - 1).toNat
def zagOf (n : Nat) : Int := if n % 2 = 1 then -((n / 2 : Nat) : Int) - 1 else ((n / 2 : Nat) : Int)
theorem zag_zig (x : Int) : zagOf (zigOf x) = x := by
  unfold zigOf zagOf
  by_cases h : 0 ≤ x
  · rw [if_pos h, if_neg (by omega)]
    omega
  · rw [if_neg h, if_pos (by omega)]
    omega
theorem zig_zag (n : Nat) : zigOf (zagOf n) = n := by
  unfold zigOf zagOf
  by_cases h : n % 2 = 1
  · rw [if_pos h, if_neg (by omega)]
    omega
  · rw [if_neg h, if_pos (by omega)]
    omega
/-- sums of bytes: as the document says, and as the program reckons -/
def refSums (l : List Nat) : Nat × Nat := l.foldl (fun s v => (s.1 + v, s.2 + (s.1 + v) % 255)) (0, 0)
def prgSums (l : List Nat) : Nat × Nat := l.foldl (fun s v => ((s.1 + v) % 255, (s.2 + (s.1 + v) % 255) % 255)) (0, 0)
theorem sums_from : ∀ (l : List Nat) (s t : Nat × Nat), t = (s.1 % 255, s.2 % 255) →
    l.foldl (fun s v => ((s.1 + v) % 255, (s.2 + (s.1 + v) % 255) % 255)) t = ((l.foldl (fun s v => (s.1 + v, s.2 + (s.1 + v) % 255)) s).1 % 255, (l.foldl (fun s v => (s.1 + v, s.2 + (s.1 + v) % 255)) s).2 % 255)
  | [], s, t, h => h
  | v :: l, s, t, h => by
    rw [List.foldl_cons, List.foldl_cons]
    refine sums_from l _ _ ?_
    subst h
    dsimp only
    have h1 : (s.1 % 255 + v) % 255 = (s.1 + v) % 255 := by omega
    rw [h1]
    congr 1
    omega
theorem sums_same (l : List Nat) : prgSums l = ((refSums l).1 % 255, (refSums l).2 % 255) := sums_from l (0, 0) (0, 0) rfl
end Gal
namespace Gal
open Go
/-- bits of a number that is less, and what is shifted above it -/
theorem or_add {x d i : Nat} (h : x < 2 ^ i) : x ||| d <<< i = x + d * 2 ^ i := by
  rw [Nat.shiftLeft_eq, Nat.or_comm, Nat.mul_comm d, ← Nat.two_pow_add_eq_or_of_lt h]
  omega
theorem i64_not' (x : Int) (h1 : -9223372036854775808 ≤ x) (h2 : x < 9223372036854775808) : bits .xor .i64 x (-1) = -1 - x := by
  show IntKind.i64.wrap ((BitVec.ofInt 64 x ^^^ BitVec.ofInt 64 (-1)).toNat : Int) = _
  have h3 : BitVec.ofInt 64 (-1) = BitVec.allOnes 64 := by decide
  rw [h3, BitVec.xor_allOnes, BitVec.toNat_not, BitVec.toNat_ofInt]
  simp [IntKind.wrap, IntKind.bits, IntKind.signed]
  omega
theorem i64_xor_zero (x : Int) (h1 : -9223372036854775808 ≤ x) (h2 : x < 9223372036854775808) : bits .xor .i64 x 0 = x := by
  show IntKind.i64.wrap ((BitVec.ofInt 64 x ^^^ BitVec.ofInt 64 0).toNat : Int) = _
  have h3 : BitVec.ofInt 64 0 = 0#64 := by decide
  rw [h3, BitVec.xor_zero, BitVec.toNat_ofInt]
  simp [IntKind.wrap, IntKind.bits, IntKind.signed]
  omega
end Gal
