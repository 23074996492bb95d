/- The reference's Digits. -/
import Derived.Test.YtchngeagnlngaaaDoorText5
import Derived.Test.YtchngeagnlngaaaDoorRefFix
import Derived.WalkKit
set_option linter.unusedVariables false
set_option linter.unusedSimpArgs false
namespace Gal
open Go.Lib
theorem dd_ge {n : Nat} (h : ¬ n < 10) : decDigits n = decDigits (n / 10) ++ [UInt8.ofNat (48 + n % 10)] := by rw [decDigits, dif_neg h]
theorem dd_lt {n : Nat} (h : n < 10) : decDigits n = [UInt8.ofNat (48 + n)] := by rw [decDigits, dif_pos h]
theorem ten0 : ∀ d : Fin 10, (ByteArray.mk #[48, 49, 50, 51, 52, 53, 54, 55, 56, 57]).extract d.val (d.val + 1) = ⟨#[UInt8.ofNat (48 + d.val)]⟩ := by decide +kernel
theorem ten {d : Nat} (h : d < 10) : (ByteArray.mk #[48, 49, 50, 51, 52, 53, 54, 55, 56, 57]).extract d (d + 1) = ⟨#[UInt8.ofNat (48 + d)]⟩ := ten0 ⟨d, h⟩
end Gal
namespace Go.Proofs.YtchngeagnlngaaaDoor
open Go.RowKit Gal
theorem str_eq {a : ByteArray} {l : List UInt8} (h : a.data.toList = l) : Value.string a = .string ⟨l.toArray⟩ := by
  subst h
  rfl
set_option maxHeartbeats 4000000 in
set_option maxRecDepth 100000 in
theorem refDigits_any (n0 : Nat) (h : n0 < 100000000) (w : World) : Calls Tryd.prog 23 #[.int .i64 n0] w fun e w' => e = .returned (.string ⟨(Lib.decDigits n0).toArray⟩) ∧ w = w' := by
  have hlen : (Lib.decDigits n0).length ≤ 8 := dd_len 7 n0 h
  have HLEN := Lib.hid hlen
  clear hlen
  go_enter Tryd.func23, Tryd.ntmps23
  go_wp2
  go_loopw [0, 3] (fun i v wr => ∃ (n : Nat) (s : List UInt8), i = .int .i64 n ∧ v = .string ⟨s.toArray⟩ ∧ n < 100000000 ∧ Hid (Lib.decDigits n0 = Lib.decDigits n ++ s) ∧ wr = w) (fun i _ _ => (intOf i).toNat)
  case atStart => exact ⟨n0, [], rfl, rfl, h, Lib.hid (by simp), rfl⟩
  case round =>
    obtain ⟨n, s, rfl, rfl, hn, HS, rfl⟩ := hrel
    have hs : s.length ≤ 8 := by
      have h1 := HLEN.out
      rw [HS.out, List.length_append] at h1
      omega
    by_cases hz : n < 10
    · have hT := ten hz
      have HZ := Lib.hid hz
      have h1 : (n : Int) ≤ 10 := by omega
      have h2 : (n : Int) + 1 ≤ 10 := by omega
      go_wp2
      go_ret
      refine ⟨?_, rfl⟩
      rw [HS.out, dd_lt HZ.out]
      exact bs_eq (by simp)
    · have hT := ten (Nat.mod_lt n (by decide : 10 > 0))
      have HZ := Lib.hid hz
      have h1 : (n : Int) % 10 ≤ 10 := by omega
      have h2 : (n : Int) % 10 + 1 ≤ 10 := by omega
      go_wp2
      go_roundw
      case rel => exact ⟨n / 10, UInt8.ofNat (48 + n % 10) :: s, by go_num, str_eq (by simp), by omega, Lib.hid (by rw [HS.out, dd_ge HZ.out, List.append_assoc]; rfl), by first | rfl | trivial⟩
      case measure =>
        have e1 : (intOf (.int .i64 ((n : Int) / 10))).toNat = n / 10 := by simp only [intOf]; omega
        have e2 : (intOf (.int .i64 (n : Int))).toNat = n := by simp only [intOf]; omega
        rw [e1, e2]
        have := HZ.out
        omega
end Go.Proofs.YtchngeagnlngaaaDoor
