/- The reference's Parse of a number's text. -/
import Derived.Test.YtchngeagnlngaaaDoorRText3
set_option linter.unusedVariables false
set_option linter.unusedSimpArgs false
namespace Gal
theorem fracR_all : ∀ r : Fin 256, pv (frac r.val) 8 / 390625 = r.val := by decide +kernel
theorem fracR {r : Nat} (h : r < 256) : pv (frac r) 8 / 390625 = r := fracR_all ⟨r, h⟩
theorem get_of {l A B D : List UInt8} {i j : Nat} (e : l = A ++ (D ++ B)) (h : i < D.length) (hj : j < l.length) (hi : j = A.length + i) : l[j]'hj = D[i]'h := by
  subst e
  subst hi
  rw [List.getElem_append_right (by omega)]
  simp [List.getElem_append_left, h]
theorem textOf_is (x : Int) : ∃ A T, textOf x = A ++ (Go.Lib.decDigits (x.natAbs / 256) ++ T) ∧ (x < 0 → A = [45]) ∧ (¬ x < 0 → A = []) ∧ (x.natAbs % 256 = 0 → T = [] ∧ frac (x.natAbs % 256) = []) ∧ (¬ x.natAbs % 256 = 0 → T = 46 :: frac (x.natAbs % 256)) := by
  refine ⟨if x < 0 then [45] else [], if x.natAbs % 256 = 0 then [] else 46 :: frac (x.natAbs % 256), ?_, ?_, ?_, ?_, ?_⟩
  · unfold textOf
    by_cases h : x < 0
    · rw [if_pos h, if_pos h]; rfl
    · have e : x.toNat = x.natAbs := by omega
      rw [if_neg h, if_neg h, e]; rfl
  · intro h; rw [if_pos h]
  · intro h; rw [if_neg h]
  · intro h; rw [if_pos h, h]; exact ⟨rfl, rfl⟩
  · intro h; rw [if_neg h]
end Gal
namespace Go.Proofs.YtchngeagnlngaaaDoor
open Go.RowKit Gal
set_option maxHeartbeats 8000000 in
set_option maxRecDepth 100000 in
theorem refParse_ok (x : Int) (hx : clamp x = x) (w : World) : Calls Tryd.prog 9 #[.string ⟨(textOf x).toArray⟩] w fun e w' => e = .returned (.tuple #[.int .i64 x, .bool true]) ∧ w = w' := by
  obtain ⟨l, hl⟩ : ∃ l, textOf x = l := ⟨_, rfl⟩
  have hb1 := clamp_lo x; have hb2 := clamp_hi x
  rw [hx] at hb1 hb2
  obtain ⟨A, T, hlf, hA1, hA2, hT1, hT2⟩ := textOf_is x
  obtain ⟨N, hN⟩ : ∃ N : Nat, x.natAbs = N := ⟨_, rfl⟩
  rw [hN] at hlf hT1 hT2
  rw [hl] at hlf
  have hN2 : N ≤ 2147483647 := by omega
  obtain ⟨D, hD⟩ : ∃ D, Lib.decDigits (N / 256) = D := ⟨_, rfl⟩
  obtain ⟨R, hR⟩ : ∃ R, frac (N % 256) = R := ⟨_, rfl⟩
  have hm : N % 256 < 256 := Nat.mod_lt _ (by decide)
  have d1 : D.length ≤ 8 := by rw [← hD]; exact dd_len 7 _ (by omega)
  have d2 : ∀ c ∈ D, isDig c := by rw [← hD]; exact dd_dig _
  have d3 : D ≠ [] := by rw [← hD]; exact dd_ne _
  have d4 : dv D = N / 256 := by rw [← hD]; exact dd_val _
  have r1 : R.length ≤ 8 := by rw [← hR]; exact frac_len hm
  have r2 : ∀ c ∈ R, isDig c := by rw [← hR]; exact frac_dig hm
  have r4 : pv R 8 / 390625 = N % 256 := by rw [← hR]; exact fracR hm
  rw [hD] at hlf
  rw [hR] at hT1 hT2
  have d5 : 1 ≤ D.length := by cases D with | nil => exact absurd rfl d3 | cons c D => simp
  have hTl : T.length ≤ 9 := by
    by_cases h : N % 256 = 0
    · rw [(hT1 h).1]; simp
    · rw [hT2 h]; simp; omega
  have hll := congrArg List.length hlf
  rw [List.length_append, List.length_append] at hll
  have hAl : A.length ≤ 1 := by
    by_cases h : x < 0
    · rw [hA1 h]; simp
    · rw [hA2 h]; simp
  have hl18 : l.length ≤ 18 := by omega
  have hl1 : 1 ≤ l.length := by omega
  have hd18 : decide (18 < (l.length : Int)) = false := by simp; omega
  have hdl : decide (0 < (l.length : Int)) = true := by simp; omega
  obtain ⟨b0, hb0, hs0, e0, e9⟩ := byte_at (l := l) (i := 0) (by omega)
  have HX := Lib.hid hx
  have HL := Lib.hid hl
  have HLF := Lib.hid hlf
  have HT1 := Lib.hid hT1
  have HT2 := Lib.hid hT2
  have D1 := Lib.hid d1
  have D2 := Lib.hid d2
  have D4 := Lib.hid d4
  have R1 := Lib.hid r1
  have R2 := Lib.hid r2
  have R4 := Lib.hid r4
  have HE9 := Lib.hid e9
  have HD5 := Lib.hid d5
  rw [hl]
  by_cases hm : x < 0
  · have HA := Lib.hid (hA1 hm)
    have HXN : Hid (x = -(N : Int)) := Lib.hid (by omega)
    obtain rfl : b0 = 45 := by
      rw [← e9, get_of (l := l) (j := 0) (A := []) (D := [45]) (B := D ++ T) (i := 0) (by rw [HLF.out, HA.out]; rfl) (by decide) (by omega) rfl]; rfl
    clear hx hl hlf hA1 hA2 hT1 hT2 hb1 hb2 hN d1 d2 d3 d4 r1 r2 r4 hD hR hTl hll hAl hm e9 d5
    go_enter Tryd.func9, Tryd.ntmps9
    go_wp2
    go_loopw [4, 6] (fun i v wx => ∃ (at1 i0 : Nat) (n : Int), at1 ≤ l.length ∧ i0 ≤ D.length ∧ i = .int .i64 at1 ∧ v = .int .i64 n ∧ Hid (at1 = A.length + i0 ∧ n = (dv (D.take i0) : Int)) ∧ wx = w) (fun i _ _ => l.length - (intOf i).toNat)
    case atStart => exact ⟨1, 0, 0, by omega, by omega, rfl, rfl, Lib.hid ⟨by rw [HA.out]; rfl, rfl⟩, rfl⟩
    case round =>
      obtain ⟨at1, i0, n, ha1, hi0, rfl, rfl, HN, rfl⟩ := hrel
      by_cases hiD : i0 < D.length
      · have y0 : at1 < l.length := by
          have h1 := congrArg List.length HLF.out
          have h2 := HN.out.1
          simp at h1
          omega
        obtain ⟨b, hb, hs1, e1, e3⟩ := byte_at y0
        have e4 : l[at1]'y0 = D[i0]'hiD := get_of HLF.out hiD y0 HN.out.1
        have hd := D2.out _ (List.getElem_mem hiD)
        rw [← e4] at hd
        unfold isDig at hd
        rw [e3] at hd
        have B3 := Lib.hid (show (D[i0]'hiD).toNat = b by rw [← e4, e3])
        have HKD := Lib.hid hiD
        have y1 : ¬ b < 48 := by omega
        have y2 : ¬ 57 < b := by omega
        have y3 : n < 100000000 := by
          have h1 := dv_lt D2.out i0
          have h2 := HN.out.2
          have h3 : 10 ^ i0 ≤ 10 ^ 8 := Nat.pow_le_pow_right (by decide) (by have := D1.out; omega)
          omega
        have y4 : 0 ≤ n := by have h2 := HN.out.2; omega
        clear hd e3 e4
        go_wp2
        go_roundw
        case rel => exact ⟨at1 + 1, i0 + 1, n * 10 + ((b : Int) - 48), by omega, by omega, by go_num, by go_num, Lib.hid ⟨by have := HN.out.1; omega, by rw [dv_step HKD.out, B3.out]; have := HN.out.2; omega⟩, by first | rfl | trivial⟩
        case measure => simp [intOf]; omega
      · have HNN : Hid (n = ((N / 256 : Nat) : Int)) := Lib.hid (by rw [HN.out.2, List.take_of_length_le (by omega), D4.out])
        have HID : Hid (i0 = D.length) := Lib.hid (by omega)
        clear hiD hi0
        by_cases h0 : N % 256 = 0
        · have HT0 := Lib.hid (HT1.out h0)
          have y0 : ¬ at1 < l.length := by
            have h1 := congrArg List.length HLF.out
            have h2 := HN.out.1
            have h3 := HID.out
            rw [HT0.out.1] at h1
            simp at h1
            omega
          clear h0
          go_wp2
          go_loopw [7, 8] (fun p m wx => ∃ k q : Nat, R.length ≤ k ∧ k ≤ 8 ∧ m = .int .i64 k ∧ p = .int .i64 q ∧ Hid (q = pv R k) ∧ wx = wr) (fun _ m _ => 8 - (intOf m).toNat)
          case atStart => exact ⟨0, 0, by rw [HT0.out.2]; exact Nat.le_refl _, by omega, rfl, rfl, Lib.hid rfl, by simp⟩
          case round =>
            obtain ⟨k, q, hkR, hk, rfl, rfl, HQ, rfl⟩ := hrel
            by_cases h8 : k < 8
            · have hqb : q < 100000000 := by
                have h1 := pv_lt R2.out k
                rw [← HQ.out] at h1
                exact Nat.lt_of_lt_of_le h1 (show 10 ^ k ≤ 10 ^ 8 from Nat.pow_le_pow_right (by decide) hk)
              have HKR := Lib.hid hkR
              go_wp2
              go_roundw
              case rel => exact ⟨k + 1, q * 10, by omega, by omega, by go_num, by go_num, Lib.hid (by have := HKR.out; rw [pv_out (by omega), HQ.out]; omega), by first | rfl | trivial⟩
              case measure => simp [intOf]; omega
            · obtain rfl : k = 8 := by omega
              have hq1 := HQ.out
              have hsum : n * 256 + (q : Int) / 390625 = (N : Int) := by
                have h1 := R4.out
                rw [← hq1] at h1
                have h2 := HNN.out
                omega
              have HS := Lib.hid hsum
              have hn2 : 0 ≤ n ∧ n ≤ 8388607 := by
                have h2 := HNN.out
                omega
              have hq8 : q < 100000000 := by
                have h1 := pv_lt R2.out 8
                rw [← hq1] at h1
                exact h1
              obtain ⟨hn3, hn4⟩ := hn2
              clear hsum hq1 hkR hk h8
              go_wp2_with fail
              rw [HS.out, ← HXN.out]
              refine (refText_any x _).mono ?_
              rintro e w' ⟨rfl, rfl⟩
              rw [HX.out, HL.out]
              go_wp2
              go_ret2
              exact ⟨rfl, by first | rfl | trivial⟩
        · have HT0 := Lib.hid (HT2.out h0)
          have HLR : Hid (l = (A ++ (D ++ [46])) ++ (R ++ [])) := Lib.hid (by rw [HLF.out, HT0.out]; simp)
          have y0 : at1 < l.length := by
            have h1 := congrArg List.length HLR.out
            have h2 := HN.out.1
            have h3 := HID.out
            simp at h1
            omega
          obtain ⟨b, hb, hs1, e1, e3⟩ := byte_at y0
          have e4 : l[at1]'y0 = ([46] : List UInt8)[0] := get_of (A := A ++ D) (D := [46]) (B := R) (i := 0) (by rw [HLR.out]; simp) (by decide) y0 (by have := HN.out.1; have := HID.out; simp; omega)
          obtain rfl : b = 46 := by rw [← e3, e4]; rfl
          have HN0 := HN
          clear HN h0 e3 e4
          have HN : Hid (at1 = A.length + D.length ∧ True) := Lib.hid ⟨by rw [HN0.out.1, HID.out], trivial⟩
          clear HN0
          go_wp2
          go_loopw [4, 7, 8] (fun i p m wx => ∃ at2 k q : Nat, at2 ≤ l.length ∧ k ≤ R.length ∧ i = .int .i64 at2 ∧ m = .int .i64 k ∧ p = .int .i64 q ∧ Hid (q = pv R k ∧ at2 = A.length + (D.length + (1 + k))) ∧ wx = wr) (fun i _ _ _ => l.length - (intOf i).toNat)
          case atStart => exact ⟨at1 + 1, 0, 0, by omega, by omega, by go_num, rfl, rfl, Lib.hid ⟨rfl, by have := HN.out.1; omega⟩, by first | rfl | trivial⟩
          case round =>
            obtain ⟨at2, k, q, ha2, hkR, rfl, rfl, rfl, HQ, rfl⟩ := hrel
            have hqb : q < 100000000 := by
              have h1 := pv_lt R2.out k
              rw [← HQ.out.1] at h1
              exact Nat.lt_of_lt_of_le h1 (show 10 ^ k ≤ 10 ^ 8 from Nat.pow_le_pow_right (by decide) (by have := R1.out; omega))
            by_cases hkr : k < R.length
            · have y0 : at2 < l.length := by
                have h1 := congrArg List.length HLR.out
                have h2 := HQ.out.2
                simp at h1
                omega
              obtain ⟨b, hb, hs2, e2, e3⟩ := byte_at y0
              have e4 : l[at2]'y0 = R[k]'hkr := get_of HLR.out hkr y0 (by have := HQ.out.2; simp; omega)
              have hd := R2.out _ (List.getElem_mem hkr)
              rw [← e4] at hd
              unfold isDig at hd
              rw [e3] at hd
              have B3 := Lib.hid (show (R[k]'hkr).toNat = b by rw [← e4, e3])
              have HKR := Lib.hid hkr
              have y1 : ¬ b < 48 := by omega
              have y2 : ¬ 57 < b := by omega
              have y3 : k < 8 := by have := R1.out; omega
              clear hd e3 e4
              go_wp2
              go_roundw
              case rel => exact ⟨at2 + 1, k + 1, q * 10 + (b - 48), by omega, by omega, by go_num, by go_num, by go_num, Lib.hid ⟨by rw [pv_in HKR.out, B3.out, HQ.out.1]; omega, by have := HQ.out.2; omega⟩, by first | rfl | trivial⟩
              case measure => simp [intOf]; omega
            · have y0 : ¬ at2 < l.length := by
                have h1 := congrArg List.length HLR.out
                have h2 := HQ.out.2
                simp at h1
                omega
              have HQ2 : Hid (q = pv R k) := Lib.hid HQ.out.1
              have hk8 : k ≤ 8 := by have := R1.out; omega
              clear HQ
              go_wp2
              go_loopw [7, 8] (fun p m wx => ∃ k q : Nat, R.length ≤ k ∧ k ≤ 8 ∧ m = .int .i64 k ∧ p = .int .i64 q ∧ Hid (q = pv R k) ∧ wx = wr) (fun _ m _ => 8 - (intOf m).toNat)
              case atStart => exact ⟨k, q, by omega, by omega, rfl, rfl, HQ2, by simp⟩
              case round =>
                obtain ⟨k, q, hkR, hk, rfl, rfl, HQ, rfl⟩ := hrel
                by_cases h8 : k < 8
                · have hqb : q < 100000000 := by
                    have h1 := pv_lt R2.out k
                    rw [← HQ.out] at h1
                    exact Nat.lt_of_lt_of_le h1 (show 10 ^ k ≤ 10 ^ 8 from Nat.pow_le_pow_right (by decide) hk)
                  have HKR := Lib.hid hkR
                  go_wp2
                  go_roundw
                  case rel => exact ⟨k + 1, q * 10, by omega, by omega, by go_num, by go_num, Lib.hid (by have := HKR.out; rw [pv_out (by omega), HQ.out]; omega), by first | rfl | trivial⟩
                  case measure => simp [intOf]; omega
                · obtain rfl : k = 8 := by omega
                  have hq1 := HQ.out
                  have hsum : n * 256 + (q : Int) / 390625 = (N : Int) := by
                    have h1 := R4.out
                    rw [← hq1] at h1
                    have h2 := HNN.out
                    omega
                  have HS := Lib.hid hsum
                  have hn2 : 0 ≤ n ∧ n ≤ 8388607 := by
                    have h2 := HNN.out
                    omega
                  have hq8 : q < 100000000 := by
                    have h1 := pv_lt R2.out 8
                    rw [← hq1] at h1
                    exact h1
                  obtain ⟨hn3, hn4⟩ := hn2
                  clear hsum hq1 hkR hk h8
                  go_wp2_with fail
                  rw [HS.out, ← HXN.out]
                  refine (refText_any x _).mono ?_
                  rintro e w' ⟨rfl, rfl⟩
                  rw [HX.out, HL.out]
                  go_wp2
                  go_ret2
                  exact ⟨rfl, by first | rfl | trivial⟩
  · have HA := Lib.hid (hA2 hm)
    have HXN : Hid (x = (N : Int)) := Lib.hid (by omega)
    have hb45 : ¬ b0 = 45 := by
      have h1 := HE9.out
      rw [get_of (l := l) (j := 0) (A := []) (D := D) (B := T) (i := 0) (by rw [HLF.out, HA.out]) (by omega) (by omega) rfl] at h1
      have h2 := D2.out _ (List.getElem_mem (show 0 < D.length by omega))
      unfold isDig at h2
      omega
    have hbi : ((b0 : Int) == 45) = false := by simp; omega
    have hbi2 : ¬ ((b0 : Int) = 45) := by omega
    clear hx hl hlf hA1 hA2 hT1 hT2 hb1 hb2 hN d1 d2 d3 d4 r1 r2 r4 hD hR hTl hll hAl hm e9 d5 hb45
    go_enter Tryd.func9, Tryd.ntmps9
    go_wp2
    go_loopw [4, 6] (fun i v wx => ∃ (at1 i0 : Nat) (n : Int), at1 ≤ l.length ∧ i0 ≤ D.length ∧ i = .int .i64 at1 ∧ v = .int .i64 n ∧ Hid (at1 = A.length + i0 ∧ n = (dv (D.take i0) : Int)) ∧ wx = w) (fun i _ _ => l.length - (intOf i).toNat)
    case atStart => exact ⟨0, 0, 0, by omega, by omega, rfl, rfl, Lib.hid ⟨by rw [HA.out]; rfl, rfl⟩, rfl⟩
    case round =>
      obtain ⟨at1, i0, n, ha1, hi0, rfl, rfl, HN, rfl⟩ := hrel
      by_cases hiD : i0 < D.length
      · have y0 : at1 < l.length := by
          have h1 := congrArg List.length HLF.out
          have h2 := HN.out.1
          simp at h1
          omega
        obtain ⟨b, hb, hs1, e1, e3⟩ := byte_at y0
        have e4 : l[at1]'y0 = D[i0]'hiD := get_of HLF.out hiD y0 HN.out.1
        have hd := D2.out _ (List.getElem_mem hiD)
        rw [← e4] at hd
        unfold isDig at hd
        rw [e3] at hd
        have B3 := Lib.hid (show (D[i0]'hiD).toNat = b by rw [← e4, e3])
        have HKD := Lib.hid hiD
        have y1 : ¬ b < 48 := by omega
        have y2 : ¬ 57 < b := by omega
        have y3 : n < 100000000 := by
          have h1 := dv_lt D2.out i0
          have h2 := HN.out.2
          have h3 : 10 ^ i0 ≤ 10 ^ 8 := Nat.pow_le_pow_right (by decide) (by have := D1.out; omega)
          omega
        have y4 : 0 ≤ n := by have h2 := HN.out.2; omega
        clear hd e3 e4
        go_wp2
        go_roundw
        case rel => exact ⟨at1 + 1, i0 + 1, n * 10 + ((b : Int) - 48), by omega, by omega, by go_num, by go_num, Lib.hid ⟨by have := HN.out.1; omega, by rw [dv_step HKD.out, B3.out]; have := HN.out.2; omega⟩, by first | rfl | trivial⟩
        case measure => simp [intOf]; omega
      · have HNN : Hid (n = ((N / 256 : Nat) : Int)) := Lib.hid (by rw [HN.out.2, List.take_of_length_le (by omega), D4.out])
        have HID : Hid (i0 = D.length) := Lib.hid (by omega)
        clear hiD hi0
        by_cases h0 : N % 256 = 0
        · have HT0 := Lib.hid (HT1.out h0)
          have y0 : ¬ at1 < l.length := by
            have h1 := congrArg List.length HLF.out
            have h2 := HN.out.1
            have h3 := HID.out
            rw [HT0.out.1] at h1
            simp at h1
            omega
          clear h0
          go_wp2
          go_loopw [7, 8] (fun p m wx => ∃ k q : Nat, R.length ≤ k ∧ k ≤ 8 ∧ m = .int .i64 k ∧ p = .int .i64 q ∧ Hid (q = pv R k) ∧ wx = wr) (fun _ m _ => 8 - (intOf m).toNat)
          case atStart => exact ⟨0, 0, by rw [HT0.out.2]; exact Nat.le_refl _, by omega, rfl, rfl, Lib.hid rfl, by simp⟩
          case round =>
            obtain ⟨k, q, hkR, hk, rfl, rfl, HQ, rfl⟩ := hrel
            by_cases h8 : k < 8
            · have hqb : q < 100000000 := by
                have h1 := pv_lt R2.out k
                rw [← HQ.out] at h1
                exact Nat.lt_of_lt_of_le h1 (show 10 ^ k ≤ 10 ^ 8 from Nat.pow_le_pow_right (by decide) hk)
              have HKR := Lib.hid hkR
              go_wp2
              go_roundw
              case rel => exact ⟨k + 1, q * 10, by omega, by omega, by go_num, by go_num, Lib.hid (by have := HKR.out; rw [pv_out (by omega), HQ.out]; omega), by first | rfl | trivial⟩
              case measure => simp [intOf]; omega
            · obtain rfl : k = 8 := by omega
              have hq1 := HQ.out
              have hsum : n * 256 + (q : Int) / 390625 = (N : Int) := by
                have h1 := R4.out
                rw [← hq1] at h1
                have h2 := HNN.out
                omega
              have HS := Lib.hid hsum
              have hn2 : 0 ≤ n ∧ n ≤ 8388607 := by
                have h2 := HNN.out
                omega
              have hq8 : q < 100000000 := by
                have h1 := pv_lt R2.out 8
                rw [← hq1] at h1
                exact h1
              obtain ⟨hn3, hn4⟩ := hn2
              clear hsum hq1 hkR hk h8
              go_wp2_with fail
              rw [HS.out, ← HXN.out]
              refine (refText_any x _).mono ?_
              rintro e w' ⟨rfl, rfl⟩
              rw [HX.out, HL.out]
              go_wp2
              go_ret2
              exact ⟨rfl, by first | rfl | trivial⟩
        · have HT0 := Lib.hid (HT2.out h0)
          have HLR : Hid (l = (A ++ (D ++ [46])) ++ (R ++ [])) := Lib.hid (by rw [HLF.out, HT0.out]; simp)
          have y0 : at1 < l.length := by
            have h1 := congrArg List.length HLR.out
            have h2 := HN.out.1
            have h3 := HID.out
            simp at h1
            omega
          obtain ⟨b, hb, hs1, e1, e3⟩ := byte_at y0
          have e4 : l[at1]'y0 = ([46] : List UInt8)[0] := get_of (A := A ++ D) (D := [46]) (B := R) (i := 0) (by rw [HLR.out]; simp) (by decide) y0 (by have := HN.out.1; have := HID.out; simp; omega)
          obtain rfl : b = 46 := by rw [← e3, e4]; rfl
          have HN0 := HN
          clear HN h0 e3 e4
          have HN : Hid (at1 = A.length + D.length ∧ True) := Lib.hid ⟨by rw [HN0.out.1, HID.out], trivial⟩
          clear HN0
          go_wp2
          go_loopw [4, 7, 8] (fun i p m wx => ∃ at2 k q : Nat, at2 ≤ l.length ∧ k ≤ R.length ∧ i = .int .i64 at2 ∧ m = .int .i64 k ∧ p = .int .i64 q ∧ Hid (q = pv R k ∧ at2 = A.length + (D.length + (1 + k))) ∧ wx = wr) (fun i _ _ _ => l.length - (intOf i).toNat)
          case atStart => exact ⟨at1 + 1, 0, 0, by omega, by omega, by go_num, rfl, rfl, Lib.hid ⟨rfl, by have := HN.out.1; omega⟩, by first | rfl | trivial⟩
          case round =>
            obtain ⟨at2, k, q, ha2, hkR, rfl, rfl, rfl, HQ, rfl⟩ := hrel
            have hqb : q < 100000000 := by
              have h1 := pv_lt R2.out k
              rw [← HQ.out.1] at h1
              exact Nat.lt_of_lt_of_le h1 (show 10 ^ k ≤ 10 ^ 8 from Nat.pow_le_pow_right (by decide) (by have := R1.out; omega))
            by_cases hkr : k < R.length
            · have y0 : at2 < l.length := by
                have h1 := congrArg List.length HLR.out
                have h2 := HQ.out.2
                simp at h1
                omega
              obtain ⟨b, hb, hs2, e2, e3⟩ := byte_at y0
              have e4 : l[at2]'y0 = R[k]'hkr := get_of HLR.out hkr y0 (by have := HQ.out.2; simp; omega)
              have hd := R2.out _ (List.getElem_mem hkr)
              rw [← e4] at hd
              unfold isDig at hd
              rw [e3] at hd
              have B3 := Lib.hid (show (R[k]'hkr).toNat = b by rw [← e4, e3])
              have HKR := Lib.hid hkr
              have y1 : ¬ b < 48 := by omega
              have y2 : ¬ 57 < b := by omega
              have y3 : k < 8 := by have := R1.out; omega
              clear hd e3 e4
              go_wp2
              go_roundw
              case rel => exact ⟨at2 + 1, k + 1, q * 10 + (b - 48), by omega, by omega, by go_num, by go_num, by go_num, Lib.hid ⟨by rw [pv_in HKR.out, B3.out, HQ.out.1]; omega, by have := HQ.out.2; omega⟩, by first | rfl | trivial⟩
              case measure => simp [intOf]; omega
            · have y0 : ¬ at2 < l.length := by
                have h1 := congrArg List.length HLR.out
                have h2 := HQ.out.2
                simp at h1
                omega
              have HQ2 : Hid (q = pv R k) := Lib.hid HQ.out.1
              have hk8 : k ≤ 8 := by have := R1.out; omega
              clear HQ
              go_wp2
              go_loopw [7, 8] (fun p m wx => ∃ k q : Nat, R.length ≤ k ∧ k ≤ 8 ∧ m = .int .i64 k ∧ p = .int .i64 q ∧ Hid (q = pv R k) ∧ wx = wr) (fun _ m _ => 8 - (intOf m).toNat)
              case atStart => exact ⟨k, q, by omega, by omega, rfl, rfl, HQ2, by simp⟩
              case round =>
                obtain ⟨k, q, hkR, hk, rfl, rfl, HQ, rfl⟩ := hrel
                by_cases h8 : k < 8
                · have hqb : q < 100000000 := by
                    have h1 := pv_lt R2.out k
                    rw [← HQ.out] at h1
                    exact Nat.lt_of_lt_of_le h1 (show 10 ^ k ≤ 10 ^ 8 from Nat.pow_le_pow_right (by decide) hk)
                  have HKR := Lib.hid hkR
                  go_wp2
                  go_roundw
                  case rel => exact ⟨k + 1, q * 10, by omega, by omega, by go_num, by go_num, Lib.hid (by have := HKR.out; rw [pv_out (by omega), HQ.out]; omega), by first | rfl | trivial⟩
                  case measure => simp [intOf]; omega
                · obtain rfl : k = 8 := by omega
                  have hq1 := HQ.out
                  have hsum : n * 256 + (q : Int) / 390625 = (N : Int) := by
                    have h1 := R4.out
                    rw [← hq1] at h1
                    have h2 := HNN.out
                    omega
                  have HS := Lib.hid hsum
                  have hn2 : 0 ≤ n ∧ n ≤ 8388607 := by
                    have h2 := HNN.out
                    omega
                  have hq8 : q < 100000000 := by
                    have h1 := pv_lt R2.out 8
                    rw [← hq1] at h1
                    exact h1
                  obtain ⟨hn3, hn4⟩ := hn2
                  clear hsum hq1 hkR hk h8
                  go_wp2_with fail
                  rw [HS.out, ← HXN.out]
                  refine (refText_any x _).mono ?_
                  rintro e w' ⟨rfl, rfl⟩
                  rw [HX.out, HL.out]
                  go_wp2
                  go_ret2
                  exact ⟨rfl, by first | rfl | trivial⟩
end Go.Proofs.YtchngeagnlngaaaDoor
