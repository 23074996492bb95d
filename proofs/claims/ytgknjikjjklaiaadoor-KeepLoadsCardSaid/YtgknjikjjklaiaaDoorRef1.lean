/- Contracts of the reference: MatFault. -/
import Derived.Test.YtgknjikjjklaiaaDoorJMat
import Derived.Test.YtgknjikjjklaiaaDoorBaseR
import Derived.Test.YtgknjikjjklaiaaDoorBaseP
set_option linter.unusedVariables false
set_option linter.unusedSimpArgs false
namespace Go.Proofs.YtgknjikjjklaiaaDoor
open Go.RowKit Gal

theorem clamp_iff (x : Int) : clamp x = x ↔ -2147483647 ≤ x ∧ x ≤ 2147483647 := by unfold clamp; omega

set_option maxRecDepth 100000 in
set_option maxHeartbeats 1000000 in
theorem refMatFault_any (m : Mat) (v : Value) (w : World) (h : MatAt w v m) :
    Calls Tryd.prog 34 #[v] w fun e w' => e = .returned (.int .i64 m.fault) ∧ Below w.heap.size w w' := by
  obtain ⟨r, c, xs⟩ := m
  obtain ⟨a, n, cap, b, off, rfl, hm⟩ := h
  unfold Mat.fault
  dsimp only at hm ⊢
  by_cases h1 : r < 0 ∨ 24 < r ∨ c < 0 ∨ 12 < c
  · have hf : matFault r c xs = 1 := by unfold matFault; rw [if_pos h1]
    rw [hf]
    clear hf hm
    go_enter Tryd.func34, Tryd.ntmps34
    go_wp2
    all_goals (go_ret; exact ⟨rfl, (by repeat (first | fail | (with_reducible exact Below.refl _ _) | (with_reducible refine Below.al ?_ _) | (with_reducible refine Below.drN ?_ _) | (with_reducible refine Below.drew ?_) | (with_reducible refine Below.st ?_ ?_ _; rotate_left 1; (first | (dsimp only; omega) | omega | (simp; omega) | simp)) | exact Below.refl _ _))⟩)
  · have g1 : 0 ≤ r ∧ r ≤ 24 ∧ 0 ≤ c ∧ c ≤ 12 := by omega
    obtain ⟨r0, r1, c0, c1⟩ := g1
    obtain ⟨R, rfl⟩ := Int.eq_ofNat_of_zero_le r0
    obtain ⟨C, rfl⟩ := Int.eq_ofNat_of_zero_le c0
    have hrc : (R : Int) * C ≤ 288 := by
      have := Nat.mul_le_mul (show R ≤ 24 by omega) (show C ≤ 12 by omega)
      rw [← Int.natCast_mul]; omega
    have hrc0 : 0 ≤ (R : Int) * C := by rw [← Int.natCast_mul]; omega
    have hl := hm.len
    have hmx := hm.max
    unfold maxLen at hmx
    by_cases h2 : (n : Int) = R * C
    · have hne : ((n : Int) != R * C) = false := by simp [h2]
      have hn : n ≤ 288 := by omega
      have hf : matFault R C xs = if inEnds xs then 0 else 1 := by unfold matFault; rw [if_neg h1, if_neg (by rw [hl]; omega)]
      have HF := Lib.hid hf
      clear hf h2 h1
      go_enter Tryd.func34, Tryd.ntmps34
      go_wp2
      go_loop [3] (fun i => ∃ k : Nat, k ≤ n ∧ i = .int .i64 k ∧ ∀ j, j < k → clamp (ix xs j) = ix xs j) (fun i => n - (intOf i).toNat)
      case atStart => exact ⟨0, Nat.zero_le _, rfl, fun j hj => absurd hj (Nat.not_lt_zero _)⟩
      case round =>
        obtain ⟨k, hk, rfl, hpre⟩ := hrel
        have HP := Lib.hid hpre
        clear hpre
        by_cases hlt : k < n
        · have hn0 : 0 < n := by omega
          obtain rfl := hm.ptr hn0
          have hb0 := hm.lt hn0
          have hb := lt_add hb0
          have hc := hm.cell k hlt
          by_cases hx : clamp (ix xs k) = ix xs k
          · have hxx := (clamp_iff _).1 hx
            have y1 : decide (ix xs k < -2147483647) = false := decide_eq_false (by omega)
            have y2 : decide (2147483647 < ix xs k) = false := decide_eq_false (by omega)
            clear hxx
            have HX := Lib.hid hx
            clear hx
            go_wp2
            go_round
            case rel => exact ⟨k + 1, by omega, by go_num, fun j hj => by
              by_cases e : j = k
              · rw [e]; exact HX.out
              · exact HP.out j (by omega)⟩
            case measure => simp [intOf]; omega
          · have hor : decide (ix xs k < -2147483647) = true ∨ decide (ix xs k < -2147483647) = false ∧ decide (2147483647 < ix xs k) = true := by
              rw [clamp_iff] at hx
              simp only [decide_eq_true_eq, decide_eq_false_iff_not]
              omega
            have HX := Lib.hid hx
            clear hx
            rcases hor with hor | ⟨hor, hor2⟩
            all_goals
              go_wp2
              go_ret
              refine ⟨ret_val ?_, (by repeat (first | fail | (with_reducible exact Below.refl _ _) | (with_reducible refine Below.al ?_ _) | (with_reducible refine Below.drN ?_ _) | (with_reducible refine Below.drew ?_) | (with_reducible refine Below.st ?_ ?_ _; rotate_left 1; (first | (dsimp only; omega) | omega | (simp; omega) | simp)) | exact Below.refl _ _))⟩
              rw [HF.out, if_neg (fun h => HX.out (h k (by rw [hl]; exact hlt)))]
              rfl
        · go_wp2
          go_ret
          refine ⟨ret_val ?_, (by repeat (first | fail | (with_reducible exact Below.refl _ _) | (with_reducible refine Below.al ?_ _) | (with_reducible refine Below.drN ?_ _) | (with_reducible refine Below.drew ?_) | (with_reducible refine Below.st ?_ ?_ _; rotate_left 1; (first | (dsimp only; omega) | omega | (simp; omega) | simp)) | exact Below.refl _ _))⟩
          rw [HF.out, if_pos (show inEnds xs from fun j hj => HP.out j (by omega))]
          rfl
    · have hne : ((n : Int) != R * C) = true := by simp [h2]
      have hf : matFault R C xs = 2 := by unfold matFault; rw [if_neg h1, if_pos (by rw [hl]; exact h2)]
      rw [hf]
      clear hf h1 h2
      go_enter Tryd.func34, Tryd.ntmps34
      go_wp2
      go_ret
      exact ⟨rfl, (by repeat (first | fail | (with_reducible exact Below.refl _ _) | (with_reducible refine Below.al ?_ _) | (with_reducible refine Below.drN ?_ _) | (with_reducible refine Below.drew ?_) | (with_reducible refine Below.st ?_ ?_ _; rotate_left 1; (first | (dsimp only; omega) | omega | (simp; omega) | simp)) | exact Below.refl _ _))⟩

end Go.Proofs.YtgknjikjjklaiaaDoor
