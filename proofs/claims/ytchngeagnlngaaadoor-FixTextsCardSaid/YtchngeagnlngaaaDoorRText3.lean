/- The reference's Parse of what is no number's text. -/
import Derived.Test.YtchngeagnlngaaaDoorRText2
set_option linter.unusedVariables false
set_option linter.unusedSimpArgs false
namespace Go.Proofs.YtchngeagnlngaaaDoor
open Go.RowKit Gal
theorem byte_at {l : List UInt8} {i : Nat} (h : i < l.length) : ∃ b : Nat, b < 256 ∧ ∃ hs : i < (⟨l.toArray⟩ : ByteArray).size, ((⟨l.toArray⟩ : ByteArray)[i]'hs).toNat = b ∧ (l[i]'h).toNat = b :=
  ⟨_, (l[i]'h).toNat_lt, by simpa [ByteArray.size] using h, rfl, rfl⟩
set_option maxHeartbeats 8000000 in
set_option maxRecDepth 100000 in
theorem refParse_no (l : List UInt8) (hl : l.length ≤ 9223372036854775807) (hno : ∀ x, clamp x = x → textOf x ≠ l) (w : World) : Calls Tryd.prog 9 #[.string ⟨l.toArray⟩] w fun e w' => e = .returned (.tuple #[.int .i64 0, .bool false]) ∧ w = w' := by
  have HNO := Lib.hid hno
  clear hno
  by_cases g1 : 18 < l.length
  · have q1 : (18 : Int) < (l.length : Int) := by omega
    go_enter Tryd.func9, Tryd.ntmps9
    go_wp2
    go_ret2
    exact ⟨rfl, rfl⟩
  have hd18 : decide (18 < (l.length : Int)) = false := by simp; omega
  by_cases g0 : l = []
  · have hdl : decide (0 < (l.length : Int)) = false := by rw [g0]; rfl
    have hl0 : ¬ 0 < l.length := by rw [g0]; decide
    clear g0
    go_enter Tryd.func9, Tryd.ntmps9
    go_wp2
    go_loopw [4, 6] (fun i v wx => ∃ (at1 : Nat) (n : Int), at1 ≤ l.length ∧ i = .int .i64 at1 ∧ v = .int .i64 n ∧ Hid (0 ≤ n ∧ n < 1000000000) ∧ wx = w) (fun i _ _ => l.length - (intOf i).toNat)
    case atStart => exact ⟨0, 0, by omega, rfl, rfl, Lib.hid (by omega), rfl⟩
    case round =>
      obtain ⟨at1, n, ha1, rfl, rfl, HN, rfl⟩ := hrel
      have y0 : ¬ at1 < l.length := by omega
      go_wp2
      go_loopw [7, 8] (fun p m wx => ∃ k q : Nat, k ≤ 8 ∧ m = .int .i64 k ∧ p = .int .i64 q ∧ Hid (q < 10 ^ k) ∧ wx = wr) (fun _ m _ => 8 - (intOf m).toNat)
      case atStart => exact ⟨0, 0, by omega, rfl, rfl, Lib.hid (by decide), by simp⟩
      case round =>
        obtain ⟨k, q, hk, rfl, rfl, HQ, rfl⟩ := hrel
        by_cases h8 : k < 8
        · have hqb : q < 100000000 := Nat.lt_of_lt_of_le HQ.out (show 10 ^ k ≤ 10 ^ 8 from Nat.pow_le_pow_right (by decide) hk)
          go_wp2
          go_roundw
          case rel => exact ⟨k + 1, q * 10, by omega, by go_num, by go_num, Lib.hid (by have := HQ.out; rw [Nat.pow_succ]; omega), by first | rfl | trivial⟩
          case measure => simp [intOf]; omega
        · obtain rfl : k = 8 := by omega
          have hq8 : q < 100000000 := HQ.out
          have hn := HN.out
          try clear y3
          obtain ⟨hn1, hn2⟩ := hn
          obtain ⟨s, hs⟩ : ∃ s : Int, (n : Int) * 256 + (q : Int) / 390625 = s := ⟨_, rfl⟩
          have hsb : 0 ≤ s ∧ s ≤ 1000000000000 := by omega
          have HS := Lib.hid hs
          clear hs hk h8
          go_wp2_with fail
          rw [HS.out]
          refine (refText_any s _).mono ?_
          rintro e w' ⟨rfl, rfl⟩
          have hne := HNO.out (clamp s) (clamp_clamp s)
          go_wp2
          all_goals first | (exfalso; exact hne ‹_›) | (exfalso; simp_all; done) | (go_ret2; exact ⟨rfl, by first | rfl | trivial⟩)
  have hl1 : 1 ≤ l.length := by
    cases l with
    | nil => exact absurd rfl g0
    | cons c l => simp
  have hl1i : 0 < (l.length : Int) := by omega
  have hdl : decide (0 < (l.length : Int)) = true := by simp; omega
  obtain ⟨b0, hb0, hs0, e0, _⟩ := byte_at (l := l) (i := 0) (by omega)
  clear g0
  by_cases hm : b0 = 45
  · subst hm
    go_enter Tryd.func9, Tryd.ntmps9
    go_wp2
    go_loopw [4, 6] (fun i v wx => ∃ (at1 : Nat) (n : Int), at1 ≤ l.length ∧ i = .int .i64 at1 ∧ v = .int .i64 n ∧ Hid (0 ≤ n ∧ n < 1000000000) ∧ wx = w) (fun i _ _ => l.length - (intOf i).toNat)
    case atStart => exact ⟨1, 0, by omega, rfl, rfl, Lib.hid (by omega), rfl⟩
    case round =>
      obtain ⟨at1, n, ha1, rfl, rfl, HN, rfl⟩ := hrel
      by_cases y0 : at1 < l.length
      · obtain ⟨b, hb, hs1, e1, _⟩ := byte_at y0
        by_cases y1 : b < 48
        · skip
          by_cases yd : b = 46
          · subst yd
            go_wp2
            go_loopw [4, 7, 8] (fun i p m wx => ∃ at2 k q : Nat, at2 ≤ l.length ∧ k ≤ 8 ∧ i = .int .i64 at2 ∧ m = .int .i64 k ∧ p = .int .i64 q ∧ Hid (q < 10 ^ k) ∧ wx = wr) (fun i _ _ _ => l.length - (intOf i).toNat)
            case atStart => exact ⟨at1 + 1, 0, 0, by omega, by omega, by go_num, rfl, rfl, Lib.hid (by decide), by first | rfl | trivial⟩
            case round =>
              obtain ⟨at2, k, q, ha2, hk, rfl, rfl, rfl, HQ, rfl⟩ := hrel
              by_cases y0 : at2 < l.length
              · obtain ⟨b, hb, hs2, e2, _⟩ := byte_at y0
                by_cases y1 : b < 48
                · go_wp2
                  go_loopw [7, 8] (fun p m wx => ∃ k q : Nat, k ≤ 8 ∧ m = .int .i64 k ∧ p = .int .i64 q ∧ Hid (q < 10 ^ k) ∧ wx = wr) (fun _ m _ => 8 - (intOf m).toNat)
                  case atStart => exact ⟨k, q, hk, rfl, rfl, HQ, by simp⟩
                  case round =>
                    obtain ⟨k, q, hk, rfl, rfl, HQ, rfl⟩ := hrel
                    by_cases h8 : k < 8
                    · have hqb : q < 100000000 := Nat.lt_of_lt_of_le HQ.out (show 10 ^ k ≤ 10 ^ 8 from Nat.pow_le_pow_right (by decide) hk)
                      go_wp2
                      go_roundw
                      case rel => exact ⟨k + 1, q * 10, by omega, by go_num, by go_num, Lib.hid (by have := HQ.out; rw [Nat.pow_succ]; omega), by first | rfl | trivial⟩
                      case measure => simp [intOf]; omega
                    · obtain rfl : k = 8 := by omega
                      have hq8 : q < 100000000 := HQ.out
                      have hn := HN.out
                      try clear y3
                      obtain ⟨hn1, hn2⟩ := hn
                      obtain ⟨s, hs⟩ : ∃ s : Int, (n : Int) * 256 + (q : Int) / 390625 = s := ⟨_, rfl⟩
                      have hsb : 0 ≤ s ∧ s ≤ 1000000000000 := by omega
                      have HS := Lib.hid hs
                      clear hs hk h8
                      go_wp2_with fail
                      rw [HS.out]
                      refine (refText_any (-s) _).mono ?_
                      rintro e w' ⟨rfl, rfl⟩
                      have hne := HNO.out (clamp (-s)) (clamp_clamp (-s))
                      go_wp2
                      all_goals first | (exfalso; exact hne ‹_›) | (exfalso; simp_all; done) | (go_ret2; exact ⟨rfl, by first | rfl | trivial⟩)
                by_cases y2 : 57 < b
                · go_wp2
                  go_loopw [7, 8] (fun p m wx => ∃ k q : Nat, k ≤ 8 ∧ m = .int .i64 k ∧ p = .int .i64 q ∧ Hid (q < 10 ^ k) ∧ wx = wr) (fun _ m _ => 8 - (intOf m).toNat)
                  case atStart => exact ⟨k, q, hk, rfl, rfl, HQ, by simp⟩
                  case round =>
                    obtain ⟨k, q, hk, rfl, rfl, HQ, rfl⟩ := hrel
                    by_cases h8 : k < 8
                    · have hqb : q < 100000000 := Nat.lt_of_lt_of_le HQ.out (show 10 ^ k ≤ 10 ^ 8 from Nat.pow_le_pow_right (by decide) hk)
                      go_wp2
                      go_roundw
                      case rel => exact ⟨k + 1, q * 10, by omega, by go_num, by go_num, Lib.hid (by have := HQ.out; rw [Nat.pow_succ]; omega), by first | rfl | trivial⟩
                      case measure => simp [intOf]; omega
                    · obtain rfl : k = 8 := by omega
                      have hq8 : q < 100000000 := HQ.out
                      have hn := HN.out
                      try clear y3
                      obtain ⟨hn1, hn2⟩ := hn
                      obtain ⟨s, hs⟩ : ∃ s : Int, (n : Int) * 256 + (q : Int) / 390625 = s := ⟨_, rfl⟩
                      have hsb : 0 ≤ s ∧ s ≤ 1000000000000 := by omega
                      have HS := Lib.hid hs
                      clear hs hk h8
                      go_wp2_with fail
                      rw [HS.out]
                      refine (refText_any (-s) _).mono ?_
                      rintro e w' ⟨rfl, rfl⟩
                      have hne := HNO.out (clamp (-s)) (clamp_clamp (-s))
                      go_wp2
                      all_goals first | (exfalso; exact hne ‹_›) | (exfalso; simp_all; done) | (go_ret2; exact ⟨rfl, by first | rfl | trivial⟩)
                by_cases y3 : k < 8
                · have hqb : q < 100000000 := Nat.lt_of_lt_of_le HQ.out (show 10 ^ k ≤ 10 ^ 8 from Nat.pow_le_pow_right (by decide) hk)
                  go_wp2
                  go_roundw
                  case rel => exact ⟨at2 + 1, k + 1, q * 10 + (b - 48), by omega, by omega, by go_num, by go_num, by go_num, Lib.hid (by have := HQ.out; rw [Nat.pow_succ]; omega), by first | rfl | trivial⟩
                  case measure => simp [intOf]; omega
                · go_wp2
                  go_loopw [7, 8] (fun p m wx => ∃ k q : Nat, k ≤ 8 ∧ m = .int .i64 k ∧ p = .int .i64 q ∧ Hid (q < 10 ^ k) ∧ wx = wr) (fun _ m _ => 8 - (intOf m).toNat)
                  case atStart => exact ⟨k, q, hk, rfl, rfl, HQ, by simp⟩
                  case round =>
                    obtain ⟨k, q, hk, rfl, rfl, HQ, rfl⟩ := hrel
                    by_cases h8 : k < 8
                    · have hqb : q < 100000000 := Nat.lt_of_lt_of_le HQ.out (show 10 ^ k ≤ 10 ^ 8 from Nat.pow_le_pow_right (by decide) hk)
                      go_wp2
                      go_roundw
                      case rel => exact ⟨k + 1, q * 10, by omega, by go_num, by go_num, Lib.hid (by have := HQ.out; rw [Nat.pow_succ]; omega), by first | rfl | trivial⟩
                      case measure => simp [intOf]; omega
                    · obtain rfl : k = 8 := by omega
                      have hq8 : q < 100000000 := HQ.out
                      have hn := HN.out
                      try clear y3
                      obtain ⟨hn1, hn2⟩ := hn
                      obtain ⟨s, hs⟩ : ∃ s : Int, (n : Int) * 256 + (q : Int) / 390625 = s := ⟨_, rfl⟩
                      have hsb : 0 ≤ s ∧ s ≤ 1000000000000 := by omega
                      have HS := Lib.hid hs
                      clear hs hk h8
                      go_wp2_with fail
                      rw [HS.out]
                      refine (refText_any (-s) _).mono ?_
                      rintro e w' ⟨rfl, rfl⟩
                      have hne := HNO.out (clamp (-s)) (clamp_clamp (-s))
                      go_wp2
                      all_goals first | (exfalso; exact hne ‹_›) | (exfalso; simp_all; done) | (go_ret2; exact ⟨rfl, by first | rfl | trivial⟩)
              · go_wp2
                go_loopw [7, 8] (fun p m wx => ∃ k q : Nat, k ≤ 8 ∧ m = .int .i64 k ∧ p = .int .i64 q ∧ Hid (q < 10 ^ k) ∧ wx = wr) (fun _ m _ => 8 - (intOf m).toNat)
                case atStart => exact ⟨k, q, hk, rfl, rfl, HQ, by simp⟩
                case round =>
                  obtain ⟨k, q, hk, rfl, rfl, HQ, rfl⟩ := hrel
                  by_cases h8 : k < 8
                  · have hqb : q < 100000000 := Nat.lt_of_lt_of_le HQ.out (show 10 ^ k ≤ 10 ^ 8 from Nat.pow_le_pow_right (by decide) hk)
                    go_wp2
                    go_roundw
                    case rel => exact ⟨k + 1, q * 10, by omega, by go_num, by go_num, Lib.hid (by have := HQ.out; rw [Nat.pow_succ]; omega), by first | rfl | trivial⟩
                    case measure => simp [intOf]; omega
                  · obtain rfl : k = 8 := by omega
                    have hq8 : q < 100000000 := HQ.out
                    have hn := HN.out
                    try clear y3
                    obtain ⟨hn1, hn2⟩ := hn
                    obtain ⟨s, hs⟩ : ∃ s : Int, (n : Int) * 256 + (q : Int) / 390625 = s := ⟨_, rfl⟩
                    have hsb : 0 ≤ s ∧ s ≤ 1000000000000 := by omega
                    have HS := Lib.hid hs
                    clear hs hk h8
                    go_wp2_with fail
                    rw [HS.out]
                    refine (refText_any (-s) _).mono ?_
                    rintro e w' ⟨rfl, rfl⟩
                    have hne := HNO.out (clamp (-s)) (clamp_clamp (-s))
                    go_wp2
                    all_goals first | (exfalso; exact hne ‹_›) | (exfalso; simp_all; done) | (go_ret2; exact ⟨rfl, by first | rfl | trivial⟩)
          · have hbd : ((b : Int) == 46) = false := by simp; omega
            have hbd2 : ¬ ((b : Int) = 46) := by omega
            go_wp2
            go_loopw [7, 8] (fun p m wx => ∃ k q : Nat, k ≤ 8 ∧ m = .int .i64 k ∧ p = .int .i64 q ∧ Hid (q < 10 ^ k) ∧ wx = wr) (fun _ m _ => 8 - (intOf m).toNat)
            case atStart => exact ⟨0, 0, by omega, rfl, rfl, Lib.hid (by decide), by simp⟩
            case round =>
              obtain ⟨k, q, hk, rfl, rfl, HQ, rfl⟩ := hrel
              by_cases h8 : k < 8
              · have hqb : q < 100000000 := Nat.lt_of_lt_of_le HQ.out (show 10 ^ k ≤ 10 ^ 8 from Nat.pow_le_pow_right (by decide) hk)
                go_wp2
                go_roundw
                case rel => exact ⟨k + 1, q * 10, by omega, by go_num, by go_num, Lib.hid (by have := HQ.out; rw [Nat.pow_succ]; omega), by first | rfl | trivial⟩
                case measure => simp [intOf]; omega
              · obtain rfl : k = 8 := by omega
                have hq8 : q < 100000000 := HQ.out
                have hn := HN.out
                try clear y3
                obtain ⟨hn1, hn2⟩ := hn
                obtain ⟨s, hs⟩ : ∃ s : Int, (n : Int) * 256 + (q : Int) / 390625 = s := ⟨_, rfl⟩
                have hsb : 0 ≤ s ∧ s ≤ 1000000000000 := by omega
                have HS := Lib.hid hs
                clear hs hk h8
                go_wp2_with fail
                rw [HS.out]
                refine (refText_any (-s) _).mono ?_
                rintro e w' ⟨rfl, rfl⟩
                have hne := HNO.out (clamp (-s)) (clamp_clamp (-s))
                go_wp2
                all_goals first | (exfalso; exact hne ‹_›) | (exfalso; simp_all; done) | (go_ret2; exact ⟨rfl, by first | rfl | trivial⟩)
        by_cases y2 : 57 < b
        · have hbd : ((b : Int) == 46) = false := by simp; omega
          have hbd2 : ¬ ((b : Int) = 46) := by omega
          go_wp2
          go_loopw [7, 8] (fun p m wx => ∃ k q : Nat, k ≤ 8 ∧ m = .int .i64 k ∧ p = .int .i64 q ∧ Hid (q < 10 ^ k) ∧ wx = wr) (fun _ m _ => 8 - (intOf m).toNat)
          case atStart => exact ⟨0, 0, by omega, rfl, rfl, Lib.hid (by decide), by simp⟩
          case round =>
            obtain ⟨k, q, hk, rfl, rfl, HQ, rfl⟩ := hrel
            by_cases h8 : k < 8
            · have hqb : q < 100000000 := Nat.lt_of_lt_of_le HQ.out (show 10 ^ k ≤ 10 ^ 8 from Nat.pow_le_pow_right (by decide) hk)
              go_wp2
              go_roundw
              case rel => exact ⟨k + 1, q * 10, by omega, by go_num, by go_num, Lib.hid (by have := HQ.out; rw [Nat.pow_succ]; omega), by first | rfl | trivial⟩
              case measure => simp [intOf]; omega
            · obtain rfl : k = 8 := by omega
              have hq8 : q < 100000000 := HQ.out
              have hn := HN.out
              try clear y3
              obtain ⟨hn1, hn2⟩ := hn
              obtain ⟨s, hs⟩ : ∃ s : Int, (n : Int) * 256 + (q : Int) / 390625 = s := ⟨_, rfl⟩
              have hsb : 0 ≤ s ∧ s ≤ 1000000000000 := by omega
              have HS := Lib.hid hs
              clear hs hk h8
              go_wp2_with fail
              rw [HS.out]
              refine (refText_any (-s) _).mono ?_
              rintro e w' ⟨rfl, rfl⟩
              have hne := HNO.out (clamp (-s)) (clamp_clamp (-s))
              go_wp2
              all_goals first | (exfalso; exact hne ‹_›) | (exfalso; simp_all; done) | (go_ret2; exact ⟨rfl, by first | rfl | trivial⟩)
        by_cases y3 : n < 100000000
        · have y4 : 0 ≤ n := HN.out.1
          go_wp2
          go_roundw
          case rel => exact ⟨at1 + 1, n * 10 + ((b : Int) - 48), by omega, by go_num, by go_num, Lib.hid (by omega), by first | rfl | trivial⟩
          case measure => simp [intOf]; omega
        · have hbd : ((b : Int) == 46) = false := by simp; omega
          have hbd2 : ¬ ((b : Int) = 46) := by omega
          have y4 : 0 ≤ n := HN.out.1
          go_wp2
          go_loopw [7, 8] (fun p m wx => ∃ k q : Nat, k ≤ 8 ∧ m = .int .i64 k ∧ p = .int .i64 q ∧ Hid (q < 10 ^ k) ∧ wx = wr) (fun _ m _ => 8 - (intOf m).toNat)
          case atStart => exact ⟨0, 0, by omega, rfl, rfl, Lib.hid (by decide), by simp⟩
          case round =>
            obtain ⟨k, q, hk, rfl, rfl, HQ, rfl⟩ := hrel
            by_cases h8 : k < 8
            · have hqb : q < 100000000 := Nat.lt_of_lt_of_le HQ.out (show 10 ^ k ≤ 10 ^ 8 from Nat.pow_le_pow_right (by decide) hk)
              go_wp2
              go_roundw
              case rel => exact ⟨k + 1, q * 10, by omega, by go_num, by go_num, Lib.hid (by have := HQ.out; rw [Nat.pow_succ]; omega), by first | rfl | trivial⟩
              case measure => simp [intOf]; omega
            · obtain rfl : k = 8 := by omega
              have hq8 : q < 100000000 := HQ.out
              have hn := HN.out
              try clear y3
              obtain ⟨hn1, hn2⟩ := hn
              obtain ⟨s, hs⟩ : ∃ s : Int, (n : Int) * 256 + (q : Int) / 390625 = s := ⟨_, rfl⟩
              have hsb : 0 ≤ s ∧ s ≤ 1000000000000 := by omega
              have HS := Lib.hid hs
              clear hs hk h8
              go_wp2_with fail
              rw [HS.out]
              refine (refText_any (-s) _).mono ?_
              rintro e w' ⟨rfl, rfl⟩
              have hne := HNO.out (clamp (-s)) (clamp_clamp (-s))
              go_wp2
              all_goals first | (exfalso; exact hne ‹_›) | (exfalso; simp_all; done) | (go_ret2; exact ⟨rfl, by first | rfl | trivial⟩)
      · go_wp2
        go_loopw [7, 8] (fun p m wx => ∃ k q : Nat, k ≤ 8 ∧ m = .int .i64 k ∧ p = .int .i64 q ∧ Hid (q < 10 ^ k) ∧ wx = wr) (fun _ m _ => 8 - (intOf m).toNat)
        case atStart => exact ⟨0, 0, by omega, rfl, rfl, Lib.hid (by decide), by simp⟩
        case round =>
          obtain ⟨k, q, hk, rfl, rfl, HQ, rfl⟩ := hrel
          by_cases h8 : k < 8
          · have hqb : q < 100000000 := Nat.lt_of_lt_of_le HQ.out (show 10 ^ k ≤ 10 ^ 8 from Nat.pow_le_pow_right (by decide) hk)
            go_wp2
            go_roundw
            case rel => exact ⟨k + 1, q * 10, by omega, by go_num, by go_num, Lib.hid (by have := HQ.out; rw [Nat.pow_succ]; omega), by first | rfl | trivial⟩
            case measure => simp [intOf]; omega
          · obtain rfl : k = 8 := by omega
            have hq8 : q < 100000000 := HQ.out
            have hn := HN.out
            try clear y3
            obtain ⟨hn1, hn2⟩ := hn
            obtain ⟨s, hs⟩ : ∃ s : Int, (n : Int) * 256 + (q : Int) / 390625 = s := ⟨_, rfl⟩
            have hsb : 0 ≤ s ∧ s ≤ 1000000000000 := by omega
            have HS := Lib.hid hs
            clear hs hk h8
            go_wp2_with fail
            rw [HS.out]
            refine (refText_any (-s) _).mono ?_
            rintro e w' ⟨rfl, rfl⟩
            have hne := HNO.out (clamp (-s)) (clamp_clamp (-s))
            go_wp2
            all_goals first | (exfalso; exact hne ‹_›) | (exfalso; simp_all; done) | (go_ret2; exact ⟨rfl, by first | rfl | trivial⟩)
  · have hbi : ((b0 : Int) == 45) = false := by simp; omega
    have hbi2 : ¬ ((b0 : Int) = 45) := by omega
    go_enter Tryd.func9, Tryd.ntmps9
    go_wp2
    go_loopw [4, 6] (fun i v wx => ∃ (at1 : Nat) (n : Int), at1 ≤ l.length ∧ i = .int .i64 at1 ∧ v = .int .i64 n ∧ Hid (0 ≤ n ∧ n < 1000000000) ∧ wx = w) (fun i _ _ => l.length - (intOf i).toNat)
    case atStart => exact ⟨0, 0, by omega, rfl, rfl, Lib.hid (by omega), rfl⟩
    case round =>
      obtain ⟨at1, n, ha1, rfl, rfl, HN, rfl⟩ := hrel
      by_cases y0 : at1 < l.length
      · obtain ⟨b, hb, hs1, e1, _⟩ := byte_at y0
        by_cases y1 : b < 48
        · skip
          by_cases yd : b = 46
          · subst yd
            go_wp2
            go_loopw [4, 7, 8] (fun i p m wx => ∃ at2 k q : Nat, at2 ≤ l.length ∧ k ≤ 8 ∧ i = .int .i64 at2 ∧ m = .int .i64 k ∧ p = .int .i64 q ∧ Hid (q < 10 ^ k) ∧ wx = wr) (fun i _ _ _ => l.length - (intOf i).toNat)
            case atStart => exact ⟨at1 + 1, 0, 0, by omega, by omega, by go_num, rfl, rfl, Lib.hid (by decide), by first | rfl | trivial⟩
            case round =>
              obtain ⟨at2, k, q, ha2, hk, rfl, rfl, rfl, HQ, rfl⟩ := hrel
              by_cases y0 : at2 < l.length
              · obtain ⟨b, hb, hs2, e2, _⟩ := byte_at y0
                by_cases y1 : b < 48
                · go_wp2
                  go_loopw [7, 8] (fun p m wx => ∃ k q : Nat, k ≤ 8 ∧ m = .int .i64 k ∧ p = .int .i64 q ∧ Hid (q < 10 ^ k) ∧ wx = wr) (fun _ m _ => 8 - (intOf m).toNat)
                  case atStart => exact ⟨k, q, hk, rfl, rfl, HQ, by simp⟩
                  case round =>
                    obtain ⟨k, q, hk, rfl, rfl, HQ, rfl⟩ := hrel
                    by_cases h8 : k < 8
                    · have hqb : q < 100000000 := Nat.lt_of_lt_of_le HQ.out (show 10 ^ k ≤ 10 ^ 8 from Nat.pow_le_pow_right (by decide) hk)
                      go_wp2
                      go_roundw
                      case rel => exact ⟨k + 1, q * 10, by omega, by go_num, by go_num, Lib.hid (by have := HQ.out; rw [Nat.pow_succ]; omega), by first | rfl | trivial⟩
                      case measure => simp [intOf]; omega
                    · obtain rfl : k = 8 := by omega
                      have hq8 : q < 100000000 := HQ.out
                      have hn := HN.out
                      try clear y3
                      obtain ⟨hn1, hn2⟩ := hn
                      obtain ⟨s, hs⟩ : ∃ s : Int, (n : Int) * 256 + (q : Int) / 390625 = s := ⟨_, rfl⟩
                      have hsb : 0 ≤ s ∧ s ≤ 1000000000000 := by omega
                      have HS := Lib.hid hs
                      clear hs hk h8
                      go_wp2_with fail
                      rw [HS.out]
                      refine (refText_any s _).mono ?_
                      rintro e w' ⟨rfl, rfl⟩
                      have hne := HNO.out (clamp s) (clamp_clamp s)
                      go_wp2
                      all_goals first | (exfalso; exact hne ‹_›) | (exfalso; simp_all; done) | (go_ret2; exact ⟨rfl, by first | rfl | trivial⟩)
                by_cases y2 : 57 < b
                · go_wp2
                  go_loopw [7, 8] (fun p m wx => ∃ k q : Nat, k ≤ 8 ∧ m = .int .i64 k ∧ p = .int .i64 q ∧ Hid (q < 10 ^ k) ∧ wx = wr) (fun _ m _ => 8 - (intOf m).toNat)
                  case atStart => exact ⟨k, q, hk, rfl, rfl, HQ, by simp⟩
                  case round =>
                    obtain ⟨k, q, hk, rfl, rfl, HQ, rfl⟩ := hrel
                    by_cases h8 : k < 8
                    · have hqb : q < 100000000 := Nat.lt_of_lt_of_le HQ.out (show 10 ^ k ≤ 10 ^ 8 from Nat.pow_le_pow_right (by decide) hk)
                      go_wp2
                      go_roundw
                      case rel => exact ⟨k + 1, q * 10, by omega, by go_num, by go_num, Lib.hid (by have := HQ.out; rw [Nat.pow_succ]; omega), by first | rfl | trivial⟩
                      case measure => simp [intOf]; omega
                    · obtain rfl : k = 8 := by omega
                      have hq8 : q < 100000000 := HQ.out
                      have hn := HN.out
                      try clear y3
                      obtain ⟨hn1, hn2⟩ := hn
                      obtain ⟨s, hs⟩ : ∃ s : Int, (n : Int) * 256 + (q : Int) / 390625 = s := ⟨_, rfl⟩
                      have hsb : 0 ≤ s ∧ s ≤ 1000000000000 := by omega
                      have HS := Lib.hid hs
                      clear hs hk h8
                      go_wp2_with fail
                      rw [HS.out]
                      refine (refText_any s _).mono ?_
                      rintro e w' ⟨rfl, rfl⟩
                      have hne := HNO.out (clamp s) (clamp_clamp s)
                      go_wp2
                      all_goals first | (exfalso; exact hne ‹_›) | (exfalso; simp_all; done) | (go_ret2; exact ⟨rfl, by first | rfl | trivial⟩)
                by_cases y3 : k < 8
                · have hqb : q < 100000000 := Nat.lt_of_lt_of_le HQ.out (show 10 ^ k ≤ 10 ^ 8 from Nat.pow_le_pow_right (by decide) hk)
                  go_wp2
                  go_roundw
                  case rel => exact ⟨at2 + 1, k + 1, q * 10 + (b - 48), by omega, by omega, by go_num, by go_num, by go_num, Lib.hid (by have := HQ.out; rw [Nat.pow_succ]; omega), by first | rfl | trivial⟩
                  case measure => simp [intOf]; omega
                · go_wp2
                  go_loopw [7, 8] (fun p m wx => ∃ k q : Nat, k ≤ 8 ∧ m = .int .i64 k ∧ p = .int .i64 q ∧ Hid (q < 10 ^ k) ∧ wx = wr) (fun _ m _ => 8 - (intOf m).toNat)
                  case atStart => exact ⟨k, q, hk, rfl, rfl, HQ, by simp⟩
                  case round =>
                    obtain ⟨k, q, hk, rfl, rfl, HQ, rfl⟩ := hrel
                    by_cases h8 : k < 8
                    · have hqb : q < 100000000 := Nat.lt_of_lt_of_le HQ.out (show 10 ^ k ≤ 10 ^ 8 from Nat.pow_le_pow_right (by decide) hk)
                      go_wp2
                      go_roundw
                      case rel => exact ⟨k + 1, q * 10, by omega, by go_num, by go_num, Lib.hid (by have := HQ.out; rw [Nat.pow_succ]; omega), by first | rfl | trivial⟩
                      case measure => simp [intOf]; omega
                    · obtain rfl : k = 8 := by omega
                      have hq8 : q < 100000000 := HQ.out
                      have hn := HN.out
                      try clear y3
                      obtain ⟨hn1, hn2⟩ := hn
                      obtain ⟨s, hs⟩ : ∃ s : Int, (n : Int) * 256 + (q : Int) / 390625 = s := ⟨_, rfl⟩
                      have hsb : 0 ≤ s ∧ s ≤ 1000000000000 := by omega
                      have HS := Lib.hid hs
                      clear hs hk h8
                      go_wp2_with fail
                      rw [HS.out]
                      refine (refText_any s _).mono ?_
                      rintro e w' ⟨rfl, rfl⟩
                      have hne := HNO.out (clamp s) (clamp_clamp s)
                      go_wp2
                      all_goals first | (exfalso; exact hne ‹_›) | (exfalso; simp_all; done) | (go_ret2; exact ⟨rfl, by first | rfl | trivial⟩)
              · go_wp2
                go_loopw [7, 8] (fun p m wx => ∃ k q : Nat, k ≤ 8 ∧ m = .int .i64 k ∧ p = .int .i64 q ∧ Hid (q < 10 ^ k) ∧ wx = wr) (fun _ m _ => 8 - (intOf m).toNat)
                case atStart => exact ⟨k, q, hk, rfl, rfl, HQ, by simp⟩
                case round =>
                  obtain ⟨k, q, hk, rfl, rfl, HQ, rfl⟩ := hrel
                  by_cases h8 : k < 8
                  · have hqb : q < 100000000 := Nat.lt_of_lt_of_le HQ.out (show 10 ^ k ≤ 10 ^ 8 from Nat.pow_le_pow_right (by decide) hk)
                    go_wp2
                    go_roundw
                    case rel => exact ⟨k + 1, q * 10, by omega, by go_num, by go_num, Lib.hid (by have := HQ.out; rw [Nat.pow_succ]; omega), by first | rfl | trivial⟩
                    case measure => simp [intOf]; omega
                  · obtain rfl : k = 8 := by omega
                    have hq8 : q < 100000000 := HQ.out
                    have hn := HN.out
                    try clear y3
                    obtain ⟨hn1, hn2⟩ := hn
                    obtain ⟨s, hs⟩ : ∃ s : Int, (n : Int) * 256 + (q : Int) / 390625 = s := ⟨_, rfl⟩
                    have hsb : 0 ≤ s ∧ s ≤ 1000000000000 := by omega
                    have HS := Lib.hid hs
                    clear hs hk h8
                    go_wp2_with fail
                    rw [HS.out]
                    refine (refText_any s _).mono ?_
                    rintro e w' ⟨rfl, rfl⟩
                    have hne := HNO.out (clamp s) (clamp_clamp s)
                    go_wp2
                    all_goals first | (exfalso; exact hne ‹_›) | (exfalso; simp_all; done) | (go_ret2; exact ⟨rfl, by first | rfl | trivial⟩)
          · have hbd : ((b : Int) == 46) = false := by simp; omega
            have hbd2 : ¬ ((b : Int) = 46) := by omega
            go_wp2
            go_loopw [7, 8] (fun p m wx => ∃ k q : Nat, k ≤ 8 ∧ m = .int .i64 k ∧ p = .int .i64 q ∧ Hid (q < 10 ^ k) ∧ wx = wr) (fun _ m _ => 8 - (intOf m).toNat)
            case atStart => exact ⟨0, 0, by omega, rfl, rfl, Lib.hid (by decide), by simp⟩
            case round =>
              obtain ⟨k, q, hk, rfl, rfl, HQ, rfl⟩ := hrel
              by_cases h8 : k < 8
              · have hqb : q < 100000000 := Nat.lt_of_lt_of_le HQ.out (show 10 ^ k ≤ 10 ^ 8 from Nat.pow_le_pow_right (by decide) hk)
                go_wp2
                go_roundw
                case rel => exact ⟨k + 1, q * 10, by omega, by go_num, by go_num, Lib.hid (by have := HQ.out; rw [Nat.pow_succ]; omega), by first | rfl | trivial⟩
                case measure => simp [intOf]; omega
              · obtain rfl : k = 8 := by omega
                have hq8 : q < 100000000 := HQ.out
                have hn := HN.out
                try clear y3
                obtain ⟨hn1, hn2⟩ := hn
                obtain ⟨s, hs⟩ : ∃ s : Int, (n : Int) * 256 + (q : Int) / 390625 = s := ⟨_, rfl⟩
                have hsb : 0 ≤ s ∧ s ≤ 1000000000000 := by omega
                have HS := Lib.hid hs
                clear hs hk h8
                go_wp2_with fail
                rw [HS.out]
                refine (refText_any s _).mono ?_
                rintro e w' ⟨rfl, rfl⟩
                have hne := HNO.out (clamp s) (clamp_clamp s)
                go_wp2
                all_goals first | (exfalso; exact hne ‹_›) | (exfalso; simp_all; done) | (go_ret2; exact ⟨rfl, by first | rfl | trivial⟩)
        by_cases y2 : 57 < b
        · have hbd : ((b : Int) == 46) = false := by simp; omega
          have hbd2 : ¬ ((b : Int) = 46) := by omega
          go_wp2
          go_loopw [7, 8] (fun p m wx => ∃ k q : Nat, k ≤ 8 ∧ m = .int .i64 k ∧ p = .int .i64 q ∧ Hid (q < 10 ^ k) ∧ wx = wr) (fun _ m _ => 8 - (intOf m).toNat)
          case atStart => exact ⟨0, 0, by omega, rfl, rfl, Lib.hid (by decide), by simp⟩
          case round =>
            obtain ⟨k, q, hk, rfl, rfl, HQ, rfl⟩ := hrel
            by_cases h8 : k < 8
            · have hqb : q < 100000000 := Nat.lt_of_lt_of_le HQ.out (show 10 ^ k ≤ 10 ^ 8 from Nat.pow_le_pow_right (by decide) hk)
              go_wp2
              go_roundw
              case rel => exact ⟨k + 1, q * 10, by omega, by go_num, by go_num, Lib.hid (by have := HQ.out; rw [Nat.pow_succ]; omega), by first | rfl | trivial⟩
              case measure => simp [intOf]; omega
            · obtain rfl : k = 8 := by omega
              have hq8 : q < 100000000 := HQ.out
              have hn := HN.out
              try clear y3
              obtain ⟨hn1, hn2⟩ := hn
              obtain ⟨s, hs⟩ : ∃ s : Int, (n : Int) * 256 + (q : Int) / 390625 = s := ⟨_, rfl⟩
              have hsb : 0 ≤ s ∧ s ≤ 1000000000000 := by omega
              have HS := Lib.hid hs
              clear hs hk h8
              go_wp2_with fail
              rw [HS.out]
              refine (refText_any s _).mono ?_
              rintro e w' ⟨rfl, rfl⟩
              have hne := HNO.out (clamp s) (clamp_clamp s)
              go_wp2
              all_goals first | (exfalso; exact hne ‹_›) | (exfalso; simp_all; done) | (go_ret2; exact ⟨rfl, by first | rfl | trivial⟩)
        by_cases y3 : n < 100000000
        · have y4 : 0 ≤ n := HN.out.1
          go_wp2
          go_roundw
          case rel => exact ⟨at1 + 1, n * 10 + ((b : Int) - 48), by omega, by go_num, by go_num, Lib.hid (by omega), by first | rfl | trivial⟩
          case measure => simp [intOf]; omega
        · have hbd : ((b : Int) == 46) = false := by simp; omega
          have hbd2 : ¬ ((b : Int) = 46) := by omega
          have y4 : 0 ≤ n := HN.out.1
          go_wp2
          go_loopw [7, 8] (fun p m wx => ∃ k q : Nat, k ≤ 8 ∧ m = .int .i64 k ∧ p = .int .i64 q ∧ Hid (q < 10 ^ k) ∧ wx = wr) (fun _ m _ => 8 - (intOf m).toNat)
          case atStart => exact ⟨0, 0, by omega, rfl, rfl, Lib.hid (by decide), by simp⟩
          case round =>
            obtain ⟨k, q, hk, rfl, rfl, HQ, rfl⟩ := hrel
            by_cases h8 : k < 8
            · have hqb : q < 100000000 := Nat.lt_of_lt_of_le HQ.out (show 10 ^ k ≤ 10 ^ 8 from Nat.pow_le_pow_right (by decide) hk)
              go_wp2
              go_roundw
              case rel => exact ⟨k + 1, q * 10, by omega, by go_num, by go_num, Lib.hid (by have := HQ.out; rw [Nat.pow_succ]; omega), by first | rfl | trivial⟩
              case measure => simp [intOf]; omega
            · obtain rfl : k = 8 := by omega
              have hq8 : q < 100000000 := HQ.out
              have hn := HN.out
              try clear y3
              obtain ⟨hn1, hn2⟩ := hn
              obtain ⟨s, hs⟩ : ∃ s : Int, (n : Int) * 256 + (q : Int) / 390625 = s := ⟨_, rfl⟩
              have hsb : 0 ≤ s ∧ s ≤ 1000000000000 := by omega
              have HS := Lib.hid hs
              clear hs hk h8
              go_wp2_with fail
              rw [HS.out]
              refine (refText_any s _).mono ?_
              rintro e w' ⟨rfl, rfl⟩
              have hne := HNO.out (clamp s) (clamp_clamp s)
              go_wp2
              all_goals first | (exfalso; exact hne ‹_›) | (exfalso; simp_all; done) | (go_ret2; exact ⟨rfl, by first | rfl | trivial⟩)
      · go_wp2
        go_loopw [7, 8] (fun p m wx => ∃ k q : Nat, k ≤ 8 ∧ m = .int .i64 k ∧ p = .int .i64 q ∧ Hid (q < 10 ^ k) ∧ wx = wr) (fun _ m _ => 8 - (intOf m).toNat)
        case atStart => exact ⟨0, 0, by omega, rfl, rfl, Lib.hid (by decide), by simp⟩
        case round =>
          obtain ⟨k, q, hk, rfl, rfl, HQ, rfl⟩ := hrel
          by_cases h8 : k < 8
          · have hqb : q < 100000000 := Nat.lt_of_lt_of_le HQ.out (show 10 ^ k ≤ 10 ^ 8 from Nat.pow_le_pow_right (by decide) hk)
            go_wp2
            go_roundw
            case rel => exact ⟨k + 1, q * 10, by omega, by go_num, by go_num, Lib.hid (by have := HQ.out; rw [Nat.pow_succ]; omega), by first | rfl | trivial⟩
            case measure => simp [intOf]; omega
          · obtain rfl : k = 8 := by omega
            have hq8 : q < 100000000 := HQ.out
            have hn := HN.out
            try clear y3
            obtain ⟨hn1, hn2⟩ := hn
            obtain ⟨s, hs⟩ : ∃ s : Int, (n : Int) * 256 + (q : Int) / 390625 = s := ⟨_, rfl⟩
            have hsb : 0 ≤ s ∧ s ≤ 1000000000000 := by omega
            have HS := Lib.hid hs
            clear hs hk h8
            go_wp2_with fail
            rw [HS.out]
            refine (refText_any s _).mono ?_
            rintro e w' ⟨rfl, rfl⟩
            have hne := HNO.out (clamp s) (clamp_clamp s)
            go_wp2
            all_goals first | (exfalso; exact hne ‹_›) | (exfalso; simp_all; done) | (go_ret2; exact ⟨rfl, by first | rfl | trivial⟩)
end Go.Proofs.YtchngeagnlngaaaDoor
