/- fix.Parse of what is no number's text. -/
import Derived.Test.YtchngeagnlngaaaDoorText4
import Derived.Laws.RangeAny
set_option linter.unusedVariables false
set_option linter.unusedSimpArgs false
namespace Go.Proofs.YtchngeagnlngaaaDoor
open Go.RowKit Gal
theorem next_rune {D : List UInt8} {i : Nat} (w1 : World) (h : i < D.length) : ∃ c wd : Nat, 1 ≤ wd ∧ c ≤ 2147483647 ∧ (c ≤ 57 → wd = 1) ∧ ∀ ty, (Instr.next (.pointer (some ⟨w1.heap.size, 0, none⟩)) true ty).run Tryd.prog (w1.iter ⟨D.toArray⟩ i) = .ok (.tuple #[.bool true, .int .i64 i, .int .i32 c]) (w1.iter ⟨D.toArray⟩ (i + wd)) := by
  have hs : i < (⟨D.toArray⟩ : ByteArray).size := by simpa [ByteArray.size] using h
  by_cases ha : ((⟨D.toArray⟩ : ByteArray)[i]'hs).toNat < 128
  · exact ⟨_, 1, Nat.le_refl _, by omega, fun _ => rfl, fun ty => run_next_ascii (P := Tryd.prog) w1 ⟨D.toArray⟩ i ty hs ha⟩
  · obtain ⟨h1, h2⟩ := decode_high ⟨D.toArray⟩ i hs (by omega)
    exact ⟨_, _, h2, decode_le _ _, fun q => by omega, fun ty => run_next_any (P := Tryd.prog) w1 ⟨D.toArray⟩ i ty hs⟩
set_option maxHeartbeats 8000000 in
set_option maxRecDepth 100000 in
theorem parse_no (l : List UInt8) (hl : l.length ≤ 9223372036854775807) (hno : ∀ x, clamp x = x → textOf x ≠ l) (w : World) (hp : Pow w) : Calls Tryd.prog 8 #[.string ⟨l.toArray⟩] w fun e w' => e = .returned (.tuple #[.int .i64 0, .iface 30 (.int .i64 7)]) ∧ Below w.heap.size w w' := by
  obtain ⟨sg, hsg⟩ : ∃ sg, signed l = sg := ⟨_, rfl⟩
  obtain ⟨m, hm⟩ : ∃ m, bare l = m := ⟨_, rfl⟩
  have hml : m.length ≤ 9223372036854775807 := by
    rw [← hm]; unfold bare; split
    · rw [List.length_drop]; omega
    · exact hl
  obtain ⟨D, hD⟩ : ∃ D, wholeOf m = D := ⟨_, rfl⟩
  obtain ⟨R, hR⟩ : ∃ R, restOf m = R := ⟨_, rfl⟩
  have HNO := Lib.hid hno
  have S1 := Lib.hid hsg
  have S2 := Lib.hid hm
  have C1 := Lib.hid hD
  have C2 := Lib.hid hR
  have HLL := Lib.hid (And.intro hl hml)
  have HDL : Hid (D.length ≤ m.length) := Lib.hid (by
    rw [← hD]; unfold wholeOf Lib.cut; split
    · simp; omega
    · simp)
  have HRL : Hid (R.length ≤ m.length) := Lib.hid (by
    rw [← hR]; unfold restOf Lib.cut; split
    · simp
    · simp)
  have hdm : D.length ≤ 9223372036854775807 := by have := HDL.out; omega
  have hrm : R.length ≤ 9223372036854775807 := by have := HRL.out; omega
  clear hno hsg hm hl hml hD hR
  go_enter Tryd.func8, Tryd.ntmps8
  go_wp2_with fail
  refine (cutPrefix_any l _ HLL.out.1).mono ?_
  rintro e w' ⟨rfl, rfl⟩
  rw [S1.out, S2.out]
  go_wp2_with fail
  refine (cut_any m _ HLL.out.2).mono ?_
  rintro e w1 ⟨rfl, hb3⟩
  rw [C1.out, C2.out]
  by_cases g1 : 8 < D.length
  · have q1 : (8 : Int) < (D.length : Int) := by omega
    go_wp2
    go_ret2
    exact ⟨rfl, hb3⟩
  by_cases g2 : 8 < R.length
  · have q2 : (8 : Int) < (R.length : Int) := by omega
    go_wp2
    go_ret2
    exact ⟨rfl, hb3⟩
  by_cases g3 : D = []
  · subst g3
    go_wp2
    go_ret2
    exact ⟨rfl, hb3⟩
  have hde : D.isEmpty = false := by simpa using g3
  have hd8 : decide (8 < (D.length : Int)) = false := by simp; omega
  have hr8 : decide (8 < (R.length : Int)) = false := by simp; omega
  clear g3
  go_wp2
  go_loopg [9] D.length (fun g s9 wx => ∃ i n : Nat, i + g = D.length ∧ s9 = .int .i64 n ∧ Hid (n < 10 ^ i) ∧ wx = w1.iter ⟨D.toArray⟩ i)
  case atStart => exact ⟨0, 0, by omega, rfl, Lib.hid (by decide), rfl⟩
  case round =>
    obtain ⟨i, n, hig, rfl, HN, rfl⟩ := hrel
    have hn : n < 100000000 := by
      exact Nat.lt_of_lt_of_le HN.out (show 10 ^ i ≤ 10 ^ 8 from Nat.pow_le_pow_right (by decide) (by omega))
    cases gk with
    | zero =>
      obtain rfl : i = D.length := by omega
      have hnx := fun ty => run_next_end (P := Tryd.prog) w1 ⟨D.toArray⟩ D.length ty (by simp [ByteArray.size])
      go_wp2
      obtain ⟨W, hW, hbW⟩ : ∃ W, w1.iter ⟨D.toArray⟩ D.length = W ∧ Below w.heap.size w W := ⟨_, rfl, hb3.trans ((show Below w1.heap.size w1 (w1.iter ⟨D.toArray⟩ D.length) from (Below.refl _ w1).alloc (Nat.le_refl _) _).mono hb3.size)⟩
      rw [hW]
      clear hnx hb3 HN hig
      go_loopw [12, 58] (fun p i wr => ∃ k q : Nat, k ≤ 8 ∧ i = .int .i64 k ∧ p = .int .i64 q ∧ Hid (q < 10 ^ k) ∧ wr = W) (fun _ i _ => 8 - (intOf i).toNat)
      case atStart => exact ⟨0, 0, by omega, rfl, rfl, Lib.hid (by decide), rfl⟩
      case round =>
        obtain ⟨k, q, hk, rfl, rfl, HQ, rfl⟩ := hrel
        have hq : q ≤ 100000000 := by
          have := HQ.out
          have h2 : 10 ^ k ≤ 10 ^ 8 := Nat.pow_le_pow_right (by decide) hk
          omega
        by_cases h8 : k < 8
        · by_cases hkr : k < R.length
          · obtain ⟨b, b2, b3⟩ : ∃ b : Nat, b < 256 ∧ (R[k]'hkr).toNat = b := ⟨_, (R[k]'hkr).toNat_lt, rfl⟩
            have hks : k < (⟨R.toArray⟩ : ByteArray).size := by simpa [ByteArray.size] using hkr
            have hix : ((⟨R.toArray⟩ : ByteArray)[k]'hks).toNat = b := b3
            have B3 := Lib.hid b3
            clear b3
            by_cases y1 : b < 48
            · have y1i : (b : Int) - 48 < 0 := by omega
              go_wp2
              go_ret2
              exact ⟨rfl, hbW⟩
            by_cases y2 : 57 < b
            · have y2i : 9 < (b : Int) - 48 := by omega
              go_wp2
              go_ret2
              exact ⟨rfl, hbW⟩
            go_wp2
            go_roundw
            case rel => exact ⟨k + 1, 10 * q + (b - 48), by omega, by go_num, by go_num, Lib.hid (by have := HQ.out; rw [Nat.pow_succ]; omega), by first | rfl | trivial⟩
            case measure => simp [intOf]; omega
          · have HK := Lib.hid hkr
            go_wp2
            go_roundw
            case rel => exact ⟨k + 1, 10 * q, by omega, by go_num, by go_num, Lib.hid (by have := HQ.out; rw [Nat.pow_succ]; omega), by first | rfl | trivial⟩
            case measure => simp [intOf]; omega
        · obtain rfl : k = 8 := by omega
          have HP := Lib.hid (hp.keep hbW)
          obtain ⟨s, hs⟩ : ∃ s : Int, (n : Int) * 256 + (q : Int) * 256 / 100000000 = s := ⟨_, rfl⟩
          have hs1 : 0 ≤ s ∧ s ≤ 100000000000 := by omega
          have HS := Lib.hid hs
          clear hk h8 hs
          cases sg
          · go_wp2_with fail
            rw [HS.out]
            refine (text_any s _ HP.out).mono ?_
            rintro e w3 ⟨rfl, hb4⟩
            have hne := HNO.out (clamp s) (clamp_clamp s)
            go_wp2
            all_goals first | (exfalso; exact hne ‹_›) | (exfalso; simp_all; done) | (go_ret2; exact ⟨rfl, hbW.trans (hb4.mono hbW.size)⟩)
          · go_wp2_with fail
            rw [HS.out]
            refine (text_any (-s) _ HP.out).mono ?_
            rintro e w3 ⟨rfl, hb4⟩
            have hne := HNO.out (clamp (-s)) (clamp_clamp (-s))
            go_wp2
            all_goals first | (exfalso; exact hne ‹_›) | (exfalso; simp_all; done) | (go_ret2; exact ⟨rfl, hbW.trans (hb4.mono hbW.size)⟩)
    | succ g =>
      have hi : i < D.length := by omega
      obtain ⟨c, wd, c1, c2, c3, hnx⟩ := next_rune w1 hi
      have hbI : Below w.heap.size w (w1.iter ⟨D.toArray⟩ (i + wd)) := hb3.trans ((show Below w1.heap.size w1 (w1.iter ⟨D.toArray⟩ (i + wd)) from (Below.refl _ w1).alloc (Nat.le_refl _) _).mono hb3.size)
      by_cases y2 : 57 < c
      · have y2i : 57 < (c : Int) := by omega
        go_wp2
        go_ret2
        exact ⟨rfl, hbI⟩
      obtain rfl := c3 (by omega)
      by_cases y1 : c < 48
      · have y1i : (c : Int) < 48 := by omega
        go_wp2
        go_ret2
        exact ⟨rfl, hbI⟩
      go_wp2
      go_roundg g
      case measure => omega
      case rel => exact ⟨i + 1, 10 * n + (c - 48), by omega, by go_num, Lib.hid (by have := HN.out; rw [Nat.pow_succ]; omega), rfl⟩
end Go.Proofs.YtchngeagnlngaaaDoor
