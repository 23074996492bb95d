/- fix.Parse of a number's text. -/
import Derived.Test.YtchngeagnlngaaaDoorText3
import Derived.Laws.RangeString
import Derived.Deep.LoopGhost
set_option linter.unusedVariables false
set_option linter.unusedSimpArgs false
namespace Gal
theorem dv_step {l : List UInt8} {i : Nat} (h : i < l.length) : dv (l.take (i + 1)) = 10 * dv (l.take i) + ((l[i]'h).toNat - 48) := by
  rw [List.take_succ_eq_append_getElem h, dv_snoc]
theorem dv_lt {l : List UInt8} (hd : ∀ c ∈ l, isDig c) : ∀ i, dv (l.take i) < 10 ^ i
  | 0 => by simp [dv]
  | i + 1 => by
    have ih := dv_lt hd i
    by_cases h : i < l.length
    · rw [dv_step h, Nat.pow_succ]
      have := hd (l[i]'h) (List.getElem_mem h)
      unfold isDig at this
      omega
    · rw [List.take_of_length_le (by omega)]
      rw [List.take_of_length_le (by omega)] at ih
      rw [Nat.pow_succ]
      omega
theorem pv_lt {l : List UInt8} (hd : ∀ c ∈ l, isDig c) : ∀ i, pv l i < 10 ^ i
  | 0 => by simp [pv]
  | i + 1 => by
    have ih := pv_lt hd i
    show 10 * pv l i + (if h : i < l.length then (l[i]'h).toNat - 48 else 0) < _
    rw [Nat.pow_succ]
    by_cases h : i < l.length
    · rw [dif_pos h]
      have := hd (l[i]'h) (List.getElem_mem h)
      unfold isDig at this
      omega
    · rw [dif_neg h]; omega
theorem pv_in {l : List UInt8} {i : Nat} (h : i < l.length) : pv l (i + 1) = 10 * pv l i + ((l[i]'h).toNat - 48) := by
  show 10 * pv l i + (if h : i < l.length then (l[i]'h).toNat - 48 else 0) = _
  rw [dif_pos h]
theorem pv_out {l : List UInt8} {i : Nat} (h : ¬ i < l.length) : pv l (i + 1) = 10 * pv l i := by
  show 10 * pv l i + (if h : i < l.length then (l[i]'h).toNat - 48 else 0) = _
  rw [dif_neg h]; omega
end Gal
namespace Go.Proofs.YtchngeagnlngaaaDoor
open Go.RowKit Gal
theorem next_dig {D : List UInt8} {i : Nat} (w1 : World) (h : i < D.length) (hd : ∀ c ∈ D, isDig c) : ∃ b : Nat, 48 ≤ b ∧ b ≤ 57 ∧ (D[i]'h).toNat = b ∧ ∀ ty, (Instr.next (.pointer (some ⟨w1.heap.size, 0, none⟩)) true ty).run Tryd.prog (w1.iter ⟨D.toArray⟩ i) = .ok (.tuple #[.bool true, .int .i64 i, .int .i32 b]) (w1.iter ⟨D.toArray⟩ (i + 1)) := by
  have hg := hd _ (List.getElem_mem h)
  unfold isDig at hg
  have hs : i < (⟨D.toArray⟩ : ByteArray).size := by simpa [ByteArray.size] using h
  have e : (⟨D.toArray⟩ : ByteArray)[i]'hs = D[i]'h := rfl
  refine ⟨_, hg.1, hg.2, rfl, fun ty => ?_⟩
  have := run_next_ascii (P := Tryd.prog) w1 ⟨D.toArray⟩ i ty hs (by rw [e]; omega)
  rw [e] at this
  exact this
set_option maxHeartbeats 8000000 in
set_option maxRecDepth 100000 in
theorem parse_ok (x : Int) (hx : clamp x = x) (w : World) (hp : Pow w) : Calls Tryd.prog 8 #[.string ⟨(textOf x).toArray⟩] w fun e w' => e = .returned (.tuple #[.int .i64 x, .nilIface]) ∧ Below w.heap.size w w' := by
  obtain ⟨l, hl⟩ : ∃ l, textOf x = l := ⟨_, rfl⟩
  obtain ⟨s1, s2⟩ := signed_text x
  have hb1 := clamp_lo x; have hb2 := clamp_hi x
  rw [hx] at hb1 hb2
  obtain ⟨N, hN⟩ : ∃ N : Nat, x.natAbs = N := ⟨_, rfl⟩
  obtain ⟨sg, hsg⟩ : ∃ sg, decide (x < 0) = sg := ⟨_, rfl⟩
  rw [hl, hsg] at s1
  rw [hl, hN] at s2
  have hN2 : N ≤ 2147483647 := by omega
  have hxN : x = if sg then -(N : Int) else N := by
    cases sg
    · have : ¬ x < 0 := by simpa using hsg
      simp; omega
    · have : x < 0 := by simpa using hsg
      simp; omega
  obtain ⟨c1, c2⟩ := natText_cut N
  obtain ⟨D, hD⟩ : ∃ D, Lib.decDigits (N / 256) = D := ⟨_, rfl⟩
  obtain ⟨R, hR⟩ : ∃ R, frac (N % 256) = R := ⟨_, rfl⟩
  have hm : N % 256 < 256 := Nat.mod_lt _ (by decide)
  have d1 : D.length ≤ 8 := by rw [← hD]; exact dd_len 7 _ (by omega)
  have d2 : ∀ c ∈ D, isDig c := by rw [← hD]; exact dd_dig _
  have d3 : D ≠ [] := by rw [← hD]; exact dd_ne _
  have d4 : dv D = N / 256 := by rw [← hD]; exact dd_val _
  have r1 : R.length ≤ 8 := by rw [← hR]; exact frac_len hm
  have r2 : ∀ c ∈ R, isDig c := by rw [← hR]; exact frac_dig hm
  have r4 : pv R 8 * 256 / 100000000 = N % 256 := by rw [← hR]; exact frac_val hm
  rw [hD] at c1
  rw [hR] at c2
  have hll : l.length ≤ 9223372036854775807 ∧ (natText N).length ≤ 9223372036854775807 := by
    have h1 : (natText N).length ≤ 17 := by
      unfold natText
      rw [List.length_append, hD]
      split
      · simp; omega
      · rw [hR]; simp; omega
    have h2 : l.length ≤ 18 := by
      rw [← hl]
      unfold textOf
      split
      · rw [hN]; simp; omega
      · have : x.toNat = N := by omega
        rw [this]; omega
    omega
  have hde : D.isEmpty = false := by simpa using d3
  have hd8 : decide (8 < (D.length : Int)) = false := by simp; omega
  have hr8 : decide (8 < (R.length : Int)) = false := by simp; omega
  have HL := Lib.hid hl
  have HX := Lib.hid hx
  have S1 := Lib.hid s1
  have S2 := Lib.hid s2
  have C1 := Lib.hid c1
  have C2 := Lib.hid c2
  have D2 := Lib.hid d2
  have D3 := Lib.hid d3
  have D4 := Lib.hid d4
  have R2 := Lib.hid r2
  have R4 := Lib.hid r4
  have HXN := Lib.hid hxN
  have HLL := Lib.hid hll
  rw [hl]
  clear hl hx s1 s2 hsg hN hb1 hb2 hxN c1 c2 hD hR hm d2 d3 d4 r2 r4 hll
  go_enter Tryd.func8, Tryd.ntmps8
  go_wp2_with fail
  refine (cutPrefix_any l _ HLL.out.1).mono ?_
  rintro e w' ⟨rfl, rfl⟩
  rw [S1.out, S2.out]
  go_wp2_with fail
  refine (cut_any (natText N) _ HLL.out.2).mono ?_
  rintro e w1 ⟨rfl, hb3⟩
  rw [C1.out, C2.out]
  go_wp2
  go_loopg [9] D.length (fun g s9 wx => ∃ i n : Nat, i + g = D.length ∧ s9 = .int .i64 n ∧ Hid (n = dv (D.take i)) ∧ wx = w1.iter ⟨D.toArray⟩ i)
  case atStart => exact ⟨0, 0, by omega, rfl, Lib.hid rfl, rfl⟩
  case round =>
    obtain ⟨i, n, hig, rfl, HN, rfl⟩ := hrel
    cases gk with
    | zero =>
      obtain rfl : i = D.length := by omega
      have hnx := fun ty => run_next_end (P := Tryd.prog) w1 ⟨D.toArray⟩ D.length ty (by simp [ByteArray.size])
      go_wp2
      have HN2 : Hid (n = N / 256) := Lib.hid (by rw [HN.out, List.take_length, D4.out])
      obtain ⟨W, hW, hbW⟩ : ∃ W, w1.iter ⟨D.toArray⟩ D.length = W ∧ Below w.heap.size w W := ⟨_, rfl, hb3.trans ((show Below w1.heap.size w1 (w1.iter ⟨D.toArray⟩ D.length) from (Below.refl _ w1).alloc (Nat.le_refl _) _).mono hb3.size)⟩
      rw [hW]
      clear hnx hb3 HN hig
      go_loopw [12, 58] (fun p i wr => ∃ k q : Nat, k ≤ 8 ∧ i = .int .i64 k ∧ p = .int .i64 q ∧ Hid (q = pv R k) ∧ wr = W) (fun _ i _ => 8 - (intOf i).toNat)
      case atStart => exact ⟨0, 0, by omega, rfl, rfl, Lib.hid rfl, rfl⟩
      case round =>
        obtain ⟨k, q, hk, rfl, rfl, HQ, rfl⟩ := hrel
        have hq : q ≤ 100000000 := by
          have := pv_lt R2.out k
          rw [← HQ.out] at this
          have h2 : 10 ^ k ≤ 10 ^ 8 := Nat.pow_le_pow_right (by decide) hk
          omega
        by_cases h8 : k < 8
        · by_cases hkr : k < R.length
          · obtain ⟨b, b1, b2, b3⟩ : ∃ b : Nat, 48 ≤ b ∧ b ≤ 57 ∧ (R[k]'hkr).toNat = b := ⟨_, (R2.out _ (List.getElem_mem hkr)).1, (R2.out _ (List.getElem_mem hkr)).2, rfl⟩
            have hks : k < (⟨R.toArray⟩ : ByteArray).size := by simpa [ByteArray.size] using hkr
            have hix : ((⟨R.toArray⟩ : ByteArray)[k]'hks).toNat = b := b3
            have B3 := Lib.hid b3
            have HK := Lib.hid hkr
            clear b3
            go_wp2
            go_roundw
            case rel => exact ⟨k + 1, 10 * q + (b - 48), by omega, by go_num, by go_num, Lib.hid (by rw [pv_in HK.out, B3.out, HQ.out]), by first | rfl | trivial⟩
            case measure => simp [intOf]; omega
          · have HK := Lib.hid hkr
            go_wp2
            go_roundw
            case rel => exact ⟨k + 1, 10 * q, by omega, by go_num, by go_num, Lib.hid (by rw [pv_out HK.out, HQ.out]), by first | rfl | trivial⟩
            case measure => simp [intOf]; omega
        · obtain rfl : k = 8 := by omega
          have hn8 : n ≤ 8388607 := by rw [HN2.out]; omega
          have hsum : (n : Int) * 256 + (q : Int) * 256 / 100000000 = N := by
            have h1 := R4.out
            rw [← HQ.out] at h1
            have h2 := HN2.out
            omega
          have HS := Lib.hid hsum
          have HP := Lib.hid (hp.keep hbW)
          clear hsum hk h8 hN2
          cases sg
          · have HXN' : Hid (x = (N : Int)) := Lib.hid (by have := HXN.out; simpa using this)
            go_wp2_with fail
            rw [HS.out, ← HXN'.out]
            refine (text_any x _ HP.out).mono ?_
            rintro e w3 ⟨rfl, hb4⟩
            rw [HX.out, HL.out]
            go_wp2
            trace_state
            go_ret2
            exact ⟨rfl, hbW.trans (hb4.mono hbW.size)⟩
          · have HXN' : Hid (x = -(N : Int)) := Lib.hid (by have := HXN.out; simpa using this)
            go_wp2_with fail
            rw [HS.out, ← HXN'.out]
            refine (text_any x _ HP.out).mono ?_
            rintro e w3 ⟨rfl, hb4⟩
            rw [HX.out, HL.out]
            go_wp2
            go_ret2
            exact ⟨rfl, hbW.trans (hb4.mono hbW.size)⟩
    | succ g =>
      have hi : i < D.length := by omega
      obtain ⟨b, b1, b2, b3, hnx⟩ := next_dig w1 hi D2.out
      have B3 := Lib.hid b3
      have hn : n < 100000000 := by
        have := dv_lt D2.out i
        rw [← HN.out] at this
        exact Nat.lt_of_lt_of_le this (show 10 ^ i ≤ 10 ^ 8 from Nat.pow_le_pow_right (by decide) (by omega))
      clear b3
      go_wp2
      go_roundg g
      case measure => omega
      case rel => exact ⟨i + 1, 10 * n + (b - 48), by omega, by go_num, Lib.hid (by rw [dv_step hi, B3.out, HN.out]), rfl⟩
end Go.Proofs.YtchngeagnlngaaaDoor
