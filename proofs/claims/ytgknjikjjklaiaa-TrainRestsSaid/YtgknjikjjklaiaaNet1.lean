/- Contracts of package net: Check; of the reference: NetWide. -/
import Derived.Test.YtgknjikjjklaiaaJPlain
import Derived.Test.YtgknjikjjklaiaaForms
import Derived.Test.YtgknjikjjklaiaaLay3
set_option linter.unusedVariables false
set_option linter.unusedSimpArgs false
namespace Go.Proofs.Ytgknjikjjklaiaa
open Go.RowKit Gal
set_option linter.unusedSectionVars false
set_option maxRecDepth 100000
set_option maxHeartbeats 4000000
section
variable (ls : List Lay) (F : Nat → Prop) (a : Option Addr) (n k b o : Nat) (i : Int) (w : World) (h : RowAt Form.lay w F a n k b o ls) (hi : -9223372036854775808 ≤ i ∧ i ≤ 9223372036854775807)
include h hi
theorem netCheck_any :
    Calls Try.prog 44 #[.slice a n k, .int .i64 i] w fun e w' => e = .returned (.tuple #[.int .i64 (okOr (netWideFault ls i) (netW ls i n)), errV (netWideFault ls i)]) ∧ Below w.heap.size w w'
  := by
  have hl := h.len
  have hm := h.max
  unfold maxLen at hm
  by_cases h12 : 12 < n
  · have hf : netWideFault ls i = 3 := by unfold netWideFault; rw [if_pos (by omega)]
    rw [hf, okOr_bad (by omega), errV_err (by omega)]
    clear hf
    go_enter Try.func44, Try.ntmps44
    go_wp2
    refine bodyPost_ret (v := .tuple #[.int .i64 0, .iface 56 (.int .i64 3)]) (by simp [results, Try.results44, go_sem]) rfl ⟨?_, ?_⟩
    · rfl
    · exact Below.refl _ _
  · by_cases h0 : n = 0 ∧ (i < 0 ∨ 12 < i)
    · have hf : netWideFault ls i = 1 := by unfold netWideFault; rw [if_neg (by omega), if_pos (by rw [hl]; exact h0)]
      rw [hf, okOr_bad (by omega), errV_err (by omega)]
      clear hf
      obtain ⟨rfl, h1⟩ := h0
      rcases h1 with h1 | h1
      · go_enter Try.func44, Try.ntmps44
        go_wp2
        refine bodyPost_ret (v := .tuple #[.int .i64 0, .iface 56 (.int .i64 1)]) (by simp [results, Try.results44, go_sem]) rfl ⟨?_, ?_⟩
        · rfl
        · exact Below.refl _ _
      · go_enter Try.func44, Try.ntmps44
        go_wp2
        refine bodyPost_ret (v := .tuple #[.int .i64 0, .iface 56 (.int .i64 1)]) (by simp [results, Try.results44, go_sem]) rfl ⟨?_, ?_⟩
        · rfl
        · exact Below.refl _ _
    · have hf : netWideFault ls i = wideTo ls i n := by unfold netWideFault; rw [if_neg (by omega), if_neg (by rw [hl]; exact h0), hl]
      rw [hf]
      have H0 := Lib.hid h0
      clear hf h0
      by_cases hn : n = 0
      · subst hn
        have h1 : 0 ≤ i := by have := H0.out; omega
        have h2 : i ≤ 12 := by have := H0.out; omega
        rw [show wideTo ls i 0 = 0 from rfl, okOr_ok rfl, errV_nil rfl]
        show Calls _ _ _ _ fun e w' => e = .returned (.tuple #[.int .i64 i, .nilIface]) ∧ _
        go_enter Try.func44, Try.ntmps44
        go_wp2
        go_loopw [1, 26] (fun s j wr => j = .int .i64 0 ∧ s = .int .i64 i ∧ Below w.heap.size w wr) (fun _ _ _ => 0)
        case atStart => exact ⟨rfl, rfl, Below.refl _ _⟩
        case round =>
          obtain ⟨rfl, rfl, hbr⟩ := hrel
          go_wp2
          refine bodyPost_ret (v := .tuple #[.int .i64 i, .nilIface]) (by simp [results, Try.results44, go_sem]) rfl ⟨?_, ?_⟩
          · rfl
          · exact hbr
      · have hne : ((n : Int) == 0) = false := by simp; omega
        have key : ∀ K, Calls Try.prog 44 #[.slice a n k, .int .i64 i] w K → Calls Try.prog 44 #[.slice a n k, .int .i64 i] w K := fun K h => h
        clear key
        go_enter Try.func44, Try.ntmps44
        go_wp2
        all_goals (
          go_loopw [1, 26] (fun s j wr => ∃ t : Nat, t ≤ n ∧ j = .int .i64 t ∧ s = .int .i64 (netW ls i t) ∧ wideTo ls i t = 0 ∧ Below w.heap.size w wr) (fun _ j _ => n - (intOf j).toNat)
          case atStart => exact ⟨0, Nat.zero_le _, rfl, rfl, rfl, Below.refl _ _⟩
          case round =>
            obtain ⟨t, ht, rfl, rfl, hw0, hbr⟩ := hrel
            have HW := Lib.hid hw0
            have hbd : -9223372036854775808 ≤ netW ls i t ∧ netW ls i t ≤ 9223372036854775807 := by
              rcases Nat.eq_zero_or_pos t with rfl | hp
              · exact hi
              · have := netW_bd hw0 hp; omega
            clear hw0
            by_cases hlt : t < n
            · obtain rfl := h.ptr (by omega)
              obtain ⟨a1, n1, k1, b1, o1, a2, n2, k2, b2, o2, c0, c1, c2, c3, c4, c5, c6, x1, x2⟩ := lay_cells (h.keep hbr) hlt
              by_cases hf : (lx ls t).wideFault (netW ls i t) = 0
              · have HF := Lib.hid hf
                have HE : Hid (errV ((lx ls t).wideFault (netW ls i t)) = .nilIface) := Lib.hid (errV_nil hf)
                have HK : Hid (okOr ((lx ls t).wideFault (netW ls i t)) ((lx ls t).wide (netW ls i t)) = netW ls i (t + 1)) := Lib.hid (okOr_ok hf)
                clear hf
                go_wp2_with fail
                refine (layWide_any (lx ls t) (netW ls i t) _ _ ⟨_, _, _, _, _, _, _, _, _, _, rfl, x1.alloc _, x2.alloc _⟩ hbd).mono ?_
                rw [HE.out, HK.out]
                rintro e w1 ⟨rfl, hb1⟩
                have hbe : Below w.heap.size w w1 := (by repeat (first | fail | (with_reducible exact Below.refl _ _) | (with_reducible exact hbr) | (with_reducible refine Below.al ?_ _) | (with_reducible refine Below.drN ?_ _) | (with_reducible refine Below.drew ?_) | (with_reducible refine Below.st ?_ ?_ _; rotate_left 1; (first | (dsimp only; omega) | omega | (simp; omega) | simp)) | (with_reducible refine Below.go ?_ hb1) | exact Below.refl _ _ | exact hbr))
                go_wp2
                go_roundw
                case rel => exact ⟨t + 1, by omega, by go_num, rfl, by rw [wideTo_succ HW.out]; exact HF.out, hbe⟩
                case measure => simp [intOf]; omega
              · have HF := Lib.hid hf
                have HE : Hid (errV ((lx ls t).wideFault (netW ls i t)) = .iface 56 (.int .i64 ((lx ls t).wideFault (netW ls i t)))) := Lib.hid (errV_err hf)
                have HK : Hid (okOr ((lx ls t).wideFault (netW ls i t)) ((lx ls t).wide (netW ls i t)) = 0) := Lib.hid (okOr_bad hf)
                clear hf
                go_wp2_with fail
                refine (layWide_any (lx ls t) (netW ls i t) _ _ ⟨_, _, _, _, _, _, _, _, _, _, rfl, x1.alloc _, x2.alloc _⟩ hbd).mono ?_
                rw [HE.out, HK.out]
                rintro e w1 ⟨rfl, hb1⟩
                have hbe : Below w.heap.size w w1 := (by repeat (first | fail | (with_reducible exact Below.refl _ _) | (with_reducible exact hbr) | (with_reducible refine Below.al ?_ _) | (with_reducible refine Below.drN ?_ _) | (with_reducible refine Below.drew ?_) | (with_reducible refine Below.st ?_ ?_ _; rotate_left 1; (first | (dsimp only; omega) | omega | (simp; omega) | simp)) | (with_reducible refine Below.go ?_ hb1) | exact Below.refl _ _ | exact hbr))
                go_wp2
                have hs : wideTo ls i (t + 1) = (lx ls t).wideFault (netW ls i t) := wideTo_succ HW.out
                have hst : wideTo ls i n = (lx ls t).wideFault (netW ls i t) := by rw [wideTo_stop (show t + 1 ≤ n by omega) (by rw [hs]; exact HF.out), hs]
                refine bodyPost_ret (v := .tuple #[.int .i64 0, .iface 56 (.int .i64 ((lx ls t).wideFault (netW ls i t)))]) (by simp [results, Try.results44, go_sem]) rfl ⟨?_, ?_⟩
                · rw [hst, HE.out, okOr_bad HF.out]
                · exact hbe
            · obtain rfl : t = n := by omega
              go_wp2
              refine bodyPost_ret (v := .tuple #[.int .i64 (netW ls i t), .nilIface]) (by simp [results, Try.results44, go_sem]) rfl ⟨?_, ?_⟩
              · rw [HW.out, okOr_ok rfl, errV_nil rfl]
              · exact hbr)
end
end Go.Proofs.Ytgknjikjjklaiaa
