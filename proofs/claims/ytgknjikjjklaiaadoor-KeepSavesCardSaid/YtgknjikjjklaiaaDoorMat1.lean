/- Contracts of package mat: Check. -/
import Derived.Test.YtgknjikjjklaiaaDoorFix
import Derived.Test.YtgknjikjjklaiaaDoorErrV
import Derived.Test.YtgknjikjjklaiaaDoorBaseP
import Derived.Test.YtgknjikjjklaiaaDoorBaseR
set_option linter.unusedVariables false
set_option linter.unusedSimpArgs false
namespace Go.Proofs.YtgknjikjjklaiaaDoor
open Go.RowKit Gal

set_option maxHeartbeats 400000 in
theorem matCheck_any (r c : Int) (a : Option Addr) (n cap b off : Nat) (xs : List Int) (w : World) (hm : IntsAt w a n cap b off xs) :
    Calls Tryd.prog 58 #[.agg #[.int .i64 r, .int .i64 c, .slice a n cap]] w fun e w' => e = .returned (errV (matFault r c xs)) ∧ Below w.heap.size w w' := by
  by_cases h1 : r < 0 ∨ 24 < r ∨ c < 0 ∨ 12 < c
  · have hf : matFault r c xs = 1 := by unfold matFault; rw [if_pos h1]
    rw [hf, errV_err (by omega)]
    clear hf hm
    go_enter Tryd.func58, Tryd.ntmps58
    go_wp2
    all_goals (go_ret; exact ⟨rfl, (Below.refl _ _).alloc (Nat.le_refl _) _⟩)
  · have g1 : 0 ≤ r ∧ r ≤ 24 ∧ 0 ≤ c ∧ c ≤ 12 := by omega
    obtain ⟨r0, r1, c0, c1⟩ := g1
    obtain ⟨R, rfl⟩ := Int.eq_ofNat_of_zero_le r0
    obtain ⟨C, rfl⟩ := Int.eq_ofNat_of_zero_le c0
    have hrc : (R : Int) * C ≤ 288 := by
      have := Nat.mul_le_mul (show R ≤ 24 by omega) (show C ≤ 12 by omega)
      rw [← Int.natCast_mul]; omega
    have hrc0 : 0 ≤ (R : Int) * C := by rw [← Int.natCast_mul]; omega
    have hl := hm.len
    have hmx := hm.max
    unfold maxLen at hmx
    by_cases h2 : (n : Int) = R * C
    · have hne : ((n : Int) != R * C) = false := by simp [h2]
      have hn : n ≤ 288 := by omega
      have hf : matFault R C xs = if inEnds xs then 0 else 1 := by unfold matFault; rw [if_neg h1, if_neg (by rw [hl]; omega)]
      have HF := Lib.hid hf
      clear hf h2 h1
      go_enter Tryd.func58, Tryd.ntmps58
      go_wp2
      go_loop [37] (fun i => ∃ k : Nat, k ≤ n ∧ i = .int .i64 k ∧ ∀ j, j < k → clamp (ix xs j) = ix xs j) (fun i => n - (intOf i).toNat)
      case atStart => exact ⟨0, Nat.zero_le _, rfl, fun j hj => absurd hj (Nat.not_lt_zero _)⟩
      case round =>
        obtain ⟨k, hk, rfl, hpre⟩ := hrel
        have HP := Lib.hid hpre
        clear hpre
        by_cases hlt : k < n
        · have hn0 : 0 < n := by omega
          obtain rfl := hm.ptr hn0
          have hb0 := hm.lt hn0
          have hb := lt_add hb0
          have hc := hm.cell k hlt
          by_cases hx : clamp (ix xs k) = ix xs k
          · have hxx : (clamp (ix xs k) != ix xs k) = false := by simp [hx]
            have HX := Lib.hid hx
            clear hx
            go_wp2_with (go_at_call 65; refine (clamp_any _ _).mono ?_; rintro e w' ⟨rfl, rfl⟩)
            go_round
            case rel => exact ⟨k + 1, by omega, by go_num, fun j hj => by
              by_cases e : j = k
              · rw [e]; exact HX.out
              · exact HP.out j (by omega)⟩
            case measure => simp [intOf]; omega
          · have hxx : (clamp (ix xs k) != ix xs k) = true := by simp [hx]
            have HX := Lib.hid hx
            clear hx
            go_wp2_with (go_at_call 65; refine (clamp_any _ _).mono ?_; rintro e w' ⟨rfl, rfl⟩)
            go_ret
            refine ⟨ret_val ?_, (Below.refl _ _).alloc (Nat.le_refl _) _⟩
            show Value.iface _ _ = _
            rw [← errV_err (k := 1) (by omega)]
            rw [HF.out, if_neg (fun h => HX.out (h k (by rw [hl]; exact hlt)))]
        · go_wp2
          go_ret
          refine ⟨ret_val ?_, (Below.refl _ _).alloc (Nat.le_refl _) _⟩
          show Value.nilIface = _
          rw [HF.out, if_pos (show inEnds xs from fun j hj => HP.out j (by omega)), errV_nil rfl]
    · have hne : ((n : Int) != R * C) = true := by simp [h2]
      have hf : matFault R C xs = 2 := by unfold matFault; rw [if_neg h1, if_pos (by rw [hl]; exact h2)]
      rw [hf, errV_err (by omega)]
      clear hf h1 h2
      go_enter Tryd.func58, Tryd.ntmps58
      go_wp2
      go_ret
      exact ⟨rfl, (Below.refl _ _).alloc (Nat.le_refl _) _⟩
end Go.Proofs.YtgknjikjjklaiaaDoor
