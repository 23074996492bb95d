/- The reference's Text. -/
import Derived.Test.YtchngeagnlngaaaDoorRText1
set_option linter.unusedVariables false
set_option linter.unusedSimpArgs false
namespace Gal
open Go.Lib
def dgs : Nat → Nat → List UInt8
  | 0, _ => []
  | k + 1, n => if n < 10 then [UInt8.ofNat (48 + n)] else dgs k (n / 10) ++ [UInt8.ofNat (48 + n % 10)]
theorem dgs_eq : ∀ (k n : Nat), n < 10 ^ (k + 1) → dgs (k + 1) n = decDigits n
  | 0, n, h => by
    have h' : n < 10 := by simpa using h
    show (if n < 10 then _ else _) = _
    rw [if_pos h', dd_lt h']
  | k + 1, n, h => by
    show (if n < 10 then _ else dgs (k + 1) (n / 10) ++ _) = _
    by_cases h' : n < 10
    · rw [if_pos h', dd_lt h']
    · rw [if_neg h', dd_ge h', dgs_eq k (n / 10) (by rw [Nat.pow_succ] at h; omega)]
theorem part0 : ∀ r : Fin 256, 0 < r.val → List.replicate (8 - (dgs 8 (r.val * 390625)).length) 48 ++ dgs 8 (r.val * 390625) = frac r.val ++ List.replicate (8 - (frac r.val).length) 48 ∧ (frac r.val).getLast? ≠ some 48 := by decide +kernel
theorem part_text {r : Nat} (h : r < 256) (h0 : 0 < r) : List.replicate (8 - (decDigits (r * 390625)).length) 48 ++ decDigits (r * 390625) = frac r ++ List.replicate (8 - (frac r).length) 48 ∧ (frac r).getLast? ≠ some 48 := by
  have := part0 ⟨r, h⟩ h0
  rw [show dgs 8 (r * 390625) = decDigits (r * 390625) from dgs_eq 7 _ (by omega)] at this
  exact this
end Gal
namespace Go.Proofs.YtchngeagnlngaaaDoor
open Go.RowKit Gal
theorem rep_push (j : Nat) (t : List UInt8) : (48 : UInt8) :: (List.replicate j 48 ++ t) = List.replicate (j + 1) 48 ++ t := by simp [List.replicate_succ]
theorem last_of {F : List UInt8} (h0 : F ≠ []) (h : F.getLast? ≠ some 48) : ∃ q b : Nat, F.length = q + 1 ∧ b ≠ 48 ∧ b < 256 ∧ ∀ hq : q < F.length, (F[q]'hq).toNat = b := by
  have hl : 1 ≤ F.length := by
    cases F with
    | nil => exact absurd rfl h0
    | cons c l => simp
  have hq : F.length - 1 < F.length := by omega
  refine ⟨F.length - 1, (F[F.length - 1]'hq).toNat, by omega, ?_, (F[F.length - 1]'hq).toNat_lt, fun _ => rfl⟩
  intro e
  apply h
  rw [List.getLast?_eq_getElem?, List.getElem?_eq_getElem hq]
  congr 1
  exact UInt8.toNat_inj.1 e
theorem drop_last (F : List UInt8) (g : Nat) : (⟨(F ++ List.replicate (g + 1) 48).toArray⟩ : ByteArray).extract 0 (F.length + g) = ⟨(F ++ List.replicate g 48).toArray⟩ := by
  rw [Lib.extract_eq]
  have h1 : (F ++ List.replicate (g + 1) (48 : UInt8)).take (F.length + g) = F ++ List.replicate g 48 := by
    rw [List.take_append, List.take_of_length_le (by omega)]
    simp
  simp [h1]
set_option maxHeartbeats 4000000 in
set_option maxRecDepth 100000 in
theorem refText_any (x : Int) (w : World) : Calls Tryd.prog 7 #[.int .i64 x] w fun e w' => e = .returned (.string ⟨(textOf (clamp x)).toArray⟩) ∧ w = w' := by
  obtain ⟨c, hc⟩ : ∃ c, clamp x = c := ⟨_, rfl⟩
  have hb1 := clamp_lo x; have hb2 := clamp_hi x
  rw [hc] at hb1 hb2 ⊢
  have HC := Lib.hid hc
  clear hc
  by_cases h0 : c < 0
  · obtain ⟨n, rfl⟩ : ∃ n : Nat, c = -(n : Int) := ⟨c.natAbs, by omega⟩
    have HT : Hid (textOf (-(n : Int)) = 45 :: natText n) := Lib.hid (by unfold textOf; rw [if_pos h0]; congr 2; omega)
    have hdl : (Lib.decDigits (n / 256)).length ≤ 8 := dd_len 7 (n / 256) (by omega)
    have hml : n % 256 < 256 := Nat.mod_lt _ (by decide)
    by_cases hm : n % 256 = 0
    · have HM := Lib.hid hm
      have hmi : (n : Int) % 256 = 0 := by omega
      clear hm
      go_enter Tryd.func7, Tryd.ntmps7
      go_wp2_with fail
      refine (rclamp_any _ _).mono ?_
      rintro e w' ⟨rfl, rfl⟩
      rw [HC.out]
      go_wp2_with fail
      refine (refDigits_any (n / 256) (by omega) _).mono ?_
      rintro e w1 ⟨rfl, rfl⟩
      go_wp2
      go_ret
      refine ⟨?_, rfl⟩
      rw [HT.out]
      unfold natText
      rw [if_pos HM.out]
      exact bs_eq (by simp)
    · obtain ⟨r0, hr0⟩ : ∃ r0, n % 256 = r0 := ⟨_, rfl⟩
      have hri : (n : Int) % 256 = r0 := by omega
      have hi2 : 0 < (n : Int) % 256 := by omega
      have hi3 : ((n : Int) % 256 * 390625 == 0) = false := by simp; omega
      have HRI : Hid ((n : Int) % 256 * 390625 = ((r0 * 390625 : Nat) : Int)) := Lib.hid (by omega)
      obtain ⟨P, hP⟩ : ∃ P, r0 * 390625 = P := ⟨_, rfl⟩
      have hP8 : P < 100000000 := by omega
      have HR := Lib.hid hr0
      rw [hr0] at hm hml
      clear hr0 hri
      obtain ⟨T0, hT0⟩ : ∃ T0, Lib.decDigits (r0 * 390625) = T0 := ⟨_, rfl⟩
      have hpt := part_text hml (by omega)
      rw [hT0] at hpt
      rw [hP] at HRI hT0
      have h8 : T0.length ≤ 8 := by rw [← hT0]; exact dd_len 7 _ hP8
      have HP := Lib.hid hpt
      have HT0 := Lib.hid hT0
      clear hpt hT0 hP
      go_enter Tryd.func7, Tryd.ntmps7
      go_wp2_with fail
      refine (rclamp_any _ _).mono ?_
      rintro e w' ⟨rfl, rfl⟩
      rw [HC.out]
      go_wp2_with fail
      refine (refDigits_any (n / 256) (by omega) _).mono ?_
      rintro e w1 ⟨rfl, rfl⟩
      go_wp2_with fail
      rw [HRI.out]
      refine (refDigits_any P hP8 _).mono ?_
      rintro e w1 ⟨rfl, rfl⟩
      rw [HT0.out]
      go_wp2
      go_loopg [6] (8 - T0.length) (fun g v wr => ∃ t : List UInt8, v = .string ⟨t.toArray⟩ ∧ t.length + g = 8 ∧ Hid (t = List.replicate (t.length - T0.length) 48 ++ T0 ∧ T0.length ≤ t.length) ∧ wr = w)
      case atStart => exact ⟨T0, rfl, by omega, Lib.hid ⟨by simp, Nat.le_refl _⟩, rfl⟩
      case round =>
        obtain ⟨t, rfl, hg, HTT, rfl⟩ := hrel
        cases gk with
        | succ g =>
          have hlt : (t.length : Int) < 8 := by omega
          go_wp2
          go_roundg g
          case measure => omega
          case rel => exact ⟨48 :: t, str_eq (by simp), by simp; omega, Lib.hid ⟨by
            have h1 := HTT.out.1
            have h2 := HTT.out.2
            rw [List.length_cons, show t.length + 1 - T0.length = (t.length - T0.length) + 1 by omega, List.replicate_succ, List.cons_append, ← h1], by have h2 := HTT.out.2; simp; omega⟩, by first | rfl | trivial⟩
        | zero =>
          have htl : t.length = 8 := by omega
          obtain ⟨F, hF⟩ : ∃ F, frac r0 = F := ⟨_, rfl⟩
          have hFn : F ≠ [] := by rw [← hF]; exact frac_ne hml (by omega)
          have hF8 : F.length ≤ 8 := by rw [← hF]; exact frac_len hml
          have hlast := HP.out.2
          rw [hF] at hlast
          have hte : t = F ++ List.replicate (8 - F.length) 48 := by
            have h1 := HTT.out.1
            have h2 := HP.out.1
            rw [htl] at h1
            rw [hF] at h2
            rw [h1, h2]
          have HTE := Lib.hid hte
          have HF := Lib.hid hF
          have HLS := Lib.hid (And.intro hFn hlast)
          have h8i : decide ((t.length : Int) < 8) = false := by simp; omega
          clear hFn hlast hte hF HTT hg
          go_wp2
          go_loopg [6] (8 - F.length) (fun g v wx => ∃ t : List UInt8, v = .string ⟨t.toArray⟩ ∧ g + F.length ≤ 8 ∧ Hid (t = F ++ List.replicate g 48) ∧ wx = wr)
          case atStart => exact ⟨t, rfl, by omega, HTE, by first | rfl | trivial⟩
          case round =>
            obtain ⟨t, rfl, hg, HT2, rfl⟩ := hrel
            cases gk with
            | zero =>
              obtain rfl : t = F := by simpa using HT2.out
              obtain ⟨q, b, hq, hbn, hb2, hbq⟩ := last_of HLS.out.1 HLS.out.2
              have hqi : (t.length : Int) - 1 = (q : Int) := by omega
              have hql : q < t.length := by omega
              have hks : q < (⟨t.toArray⟩ : ByteArray).size := by simpa [ByteArray.size] using hql
              have hix : ((⟨t.toArray⟩ : ByteArray)[q]'hks).toNat = b := hbq hql
              have hbi : ((b : Int) == 48) = false := by simp; omega
              have hbi2 : ¬ ((b : Int) = 48) := by omega
              clear hq hbq hbn HT2
              go_wp2
              go_ret
              refine ⟨?_, by first | rfl | trivial⟩
              rw [HT.out]
              unfold natText
              rw [HR.out, if_neg hm, HF.out]
              exact bs_eq (by simp)
            | succ g =>
              obtain ⟨q, hq⟩ : ∃ q, F.length + g = q := ⟨_, rfl⟩
              have htl2 : t.length = q + 1 := by rw [HT2.out, List.length_append, List.length_replicate]; omega
              have hqi : (t.length : Int) - 1 = (q : Int) := by omega
              have hql : q < t.length := by omega
              have hks : q < (⟨t.toArray⟩ : ByteArray).size := by simpa [ByteArray.size] using hql
              have hix : ((⟨t.toArray⟩ : ByteArray)[q]'hks).toNat = 48 := by
                show (t[q]'hql).toNat = 48
                have h1 : t[q]'hql = 48 := by
                  have h2 : t[q]? = some 48 := by
                    rw [HT2.out, List.getElem?_append_right (by omega), List.getElem?_replicate, if_pos (by omega)]
                  rw [List.getElem?_eq_getElem hql] at h2
                  exact Option.some.inj h2
                rw [h1]; rfl
              have hdr : (⟨t.toArray⟩ : ByteArray).extract 0 q = ⟨(F ++ List.replicate g 48).toArray⟩ := by
                rw [HT2.out, ← hq]
                exact drop_last F g
              have hqle : q ≤ t.length := by omega
              have ht8 : t.length ≤ 8 := by omega
              clear hq htl2
              go_wp2
              go_roundg g
              case measure => omega
              case rel => exact ⟨F ++ List.replicate g 48, rfl, by omega, Lib.hid rfl, by first | rfl | trivial⟩
  · obtain ⟨n, rfl⟩ : ∃ n : Nat, c = (n : Int) := ⟨c.toNat, by omega⟩
    have HT : Hid (textOf (n : Int) = natText n) := Lib.hid (by unfold textOf; rw [if_neg h0]; congr 1)
    have hdl : (Lib.decDigits (n / 256)).length ≤ 8 := dd_len 7 (n / 256) (by omega)
    have hml : n % 256 < 256 := Nat.mod_lt _ (by decide)
    by_cases hm : n % 256 = 0
    · have HM := Lib.hid hm
      have hmi : (n : Int) % 256 = 0 := by omega
      clear hm
      go_enter Tryd.func7, Tryd.ntmps7
      go_wp2_with fail
      refine (rclamp_any _ _).mono ?_
      rintro e w' ⟨rfl, rfl⟩
      rw [HC.out]
      go_wp2_with fail
      refine (refDigits_any (n / 256) (by omega) _).mono ?_
      rintro e w1 ⟨rfl, rfl⟩
      go_wp2
      go_ret
      refine ⟨?_, rfl⟩
      rw [HT.out]
      unfold natText
      rw [if_pos HM.out]
      exact bs_eq (by simp)
    · obtain ⟨r0, hr0⟩ : ∃ r0, n % 256 = r0 := ⟨_, rfl⟩
      have hri : (n : Int) % 256 = r0 := by omega
      have hi2 : 0 < (n : Int) % 256 := by omega
      have hi3 : ((n : Int) % 256 * 390625 == 0) = false := by simp; omega
      have HRI : Hid ((n : Int) % 256 * 390625 = ((r0 * 390625 : Nat) : Int)) := Lib.hid (by omega)
      obtain ⟨P, hP⟩ : ∃ P, r0 * 390625 = P := ⟨_, rfl⟩
      have hP8 : P < 100000000 := by omega
      have HR := Lib.hid hr0
      rw [hr0] at hm hml
      clear hr0 hri
      obtain ⟨T0, hT0⟩ : ∃ T0, Lib.decDigits (r0 * 390625) = T0 := ⟨_, rfl⟩
      have hpt := part_text hml (by omega)
      rw [hT0] at hpt
      rw [hP] at HRI hT0
      have h8 : T0.length ≤ 8 := by rw [← hT0]; exact dd_len 7 _ hP8
      have HP := Lib.hid hpt
      have HT0 := Lib.hid hT0
      clear hpt hT0 hP
      go_enter Tryd.func7, Tryd.ntmps7
      go_wp2_with fail
      refine (rclamp_any _ _).mono ?_
      rintro e w' ⟨rfl, rfl⟩
      rw [HC.out]
      go_wp2_with fail
      refine (refDigits_any (n / 256) (by omega) _).mono ?_
      rintro e w1 ⟨rfl, rfl⟩
      go_wp2_with fail
      rw [HRI.out]
      refine (refDigits_any P hP8 _).mono ?_
      rintro e w1 ⟨rfl, rfl⟩
      rw [HT0.out]
      go_wp2
      go_loopg [6] (8 - T0.length) (fun g v wr => ∃ t : List UInt8, v = .string ⟨t.toArray⟩ ∧ t.length + g = 8 ∧ Hid (t = List.replicate (t.length - T0.length) 48 ++ T0 ∧ T0.length ≤ t.length) ∧ wr = w)
      case atStart => exact ⟨T0, rfl, by omega, Lib.hid ⟨by simp, Nat.le_refl _⟩, rfl⟩
      case round =>
        obtain ⟨t, rfl, hg, HTT, rfl⟩ := hrel
        cases gk with
        | succ g =>
          have hlt : (t.length : Int) < 8 := by omega
          go_wp2
          go_roundg g
          case measure => omega
          case rel => exact ⟨48 :: t, str_eq (by simp), by simp; omega, Lib.hid ⟨by
            have h1 := HTT.out.1
            have h2 := HTT.out.2
            rw [List.length_cons, show t.length + 1 - T0.length = (t.length - T0.length) + 1 by omega, List.replicate_succ, List.cons_append, ← h1], by have h2 := HTT.out.2; simp; omega⟩, by first | rfl | trivial⟩
        | zero =>
          have htl : t.length = 8 := by omega
          obtain ⟨F, hF⟩ : ∃ F, frac r0 = F := ⟨_, rfl⟩
          have hFn : F ≠ [] := by rw [← hF]; exact frac_ne hml (by omega)
          have hF8 : F.length ≤ 8 := by rw [← hF]; exact frac_len hml
          have hlast := HP.out.2
          rw [hF] at hlast
          have hte : t = F ++ List.replicate (8 - F.length) 48 := by
            have h1 := HTT.out.1
            have h2 := HP.out.1
            rw [htl] at h1
            rw [hF] at h2
            rw [h1, h2]
          have HTE := Lib.hid hte
          have HF := Lib.hid hF
          have HLS := Lib.hid (And.intro hFn hlast)
          have h8i : decide ((t.length : Int) < 8) = false := by simp; omega
          clear hFn hlast hte hF HTT hg
          go_wp2
          go_loopg [6] (8 - F.length) (fun g v wx => ∃ t : List UInt8, v = .string ⟨t.toArray⟩ ∧ g + F.length ≤ 8 ∧ Hid (t = F ++ List.replicate g 48) ∧ wx = wr)
          case atStart => exact ⟨t, rfl, by omega, HTE, by first | rfl | trivial⟩
          case round =>
            obtain ⟨t, rfl, hg, HT2, rfl⟩ := hrel
            cases gk with
            | zero =>
              obtain rfl : t = F := by simpa using HT2.out
              obtain ⟨q, b, hq, hbn, hb2, hbq⟩ := last_of HLS.out.1 HLS.out.2
              have hqi : (t.length : Int) - 1 = (q : Int) := by omega
              have hql : q < t.length := by omega
              have hks : q < (⟨t.toArray⟩ : ByteArray).size := by simpa [ByteArray.size] using hql
              have hix : ((⟨t.toArray⟩ : ByteArray)[q]'hks).toNat = b := hbq hql
              have hbi : ((b : Int) == 48) = false := by simp; omega
              have hbi2 : ¬ ((b : Int) = 48) := by omega
              clear hq hbq hbn HT2
              go_wp2
              go_ret
              refine ⟨?_, by first | rfl | trivial⟩
              rw [HT.out]
              unfold natText
              rw [HR.out, if_neg hm, HF.out]
              exact bs_eq (by simp)
            | succ g =>
              obtain ⟨q, hq⟩ : ∃ q, F.length + g = q := ⟨_, rfl⟩
              have htl2 : t.length = q + 1 := by rw [HT2.out, List.length_append, List.length_replicate]; omega
              have hqi : (t.length : Int) - 1 = (q : Int) := by omega
              have hql : q < t.length := by omega
              have hks : q < (⟨t.toArray⟩ : ByteArray).size := by simpa [ByteArray.size] using hql
              have hix : ((⟨t.toArray⟩ : ByteArray)[q]'hks).toNat = 48 := by
                show (t[q]'hql).toNat = 48
                have h1 : t[q]'hql = 48 := by
                  have h2 : t[q]? = some 48 := by
                    rw [HT2.out, List.getElem?_append_right (by omega), List.getElem?_replicate, if_pos (by omega)]
                  rw [List.getElem?_eq_getElem hql] at h2
                  exact Option.some.inj h2
                rw [h1]; rfl
              have hdr : (⟨t.toArray⟩ : ByteArray).extract 0 q = ⟨(F ++ List.replicate g 48).toArray⟩ := by
                rw [HT2.out, ← hq]
                exact drop_last F g
              have hqle : q ≤ t.length := by omega
              have ht8 : t.length ≤ 8 := by omega
              clear hq htl2
              go_wp2
              go_roundg g
              case measure => omega
              case rel => exact ⟨F ++ List.replicate g 48, rfl, by omega, Lib.hid rfl, by first | rfl | trivial⟩
end Go.Proofs.YtchngeagnlngaaaDoor
