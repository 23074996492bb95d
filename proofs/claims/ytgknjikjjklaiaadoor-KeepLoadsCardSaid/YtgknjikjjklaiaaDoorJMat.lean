/- Some small texts, joined: Fix, Mat1, Same. -/
import Derived.Test.YtgknjikjjklaiaaDoorProg
import Derived.Test.YtgknjikjjklaiaaDoorBaseP
import Derived.Test.YtgknjikjjklaiaaDoorSameI
import Derived.WalkKit
import Derived.WalkLawsBesides
import Derived.WalkSpells
import Derived.Test.YtgknjikjjklaiaaDoorErrV
import Derived.Test.YtgknjikjjklaiaaDoorBaseR
import Derived.BigQuiet
import Derived.IntWalk
import Derived.RegionTactic
section

set_option linter.unusedVariables false
set_option linter.unusedSimpArgs false
namespace Go.Proofs.YtgknjikjjklaiaaDoor
open Go.RowKit


theorem clamp_any (x : Int) (w : World) : Calls Tryd.prog 65 #[.int .i64 x] w fun e w' => e = .returned (.int .i64 (Gal.clamp x)) ∧ w = w' := by
  go_enter Tryd.func65, Tryd.ntmps65
  go_wp2
  all_goals (go_ret; exact ⟨ret_int (by unfold Gal.clamp; omega), rfl⟩)

end Go.Proofs.YtgknjikjjklaiaaDoor
end
section
set_option linter.unusedVariables false
set_option linter.unusedSimpArgs false
namespace Go.Proofs.YtgknjikjjklaiaaDoor
open Go.RowKit Gal

set_option maxHeartbeats 400000 in
theorem matCheck_any (r c : Int) (a : Option Addr) (n cap b off : Nat) (xs : List Int) (w : World) (hm : IntsAt w a n cap b off xs) :
    Calls Tryd.prog 58 #[.agg #[.int .i64 r, .int .i64 c, .slice a n cap]] w fun e w' => e = .returned (errV (matFault r c xs)) ∧ Below w.heap.size w w' := by
  by_cases h1 : r < 0 ∨ 24 < r ∨ c < 0 ∨ 12 < c
  · have hf : matFault r c xs = 1 := by unfold matFault; rw [if_pos h1]
    rw [hf, errV_err (by omega)]
    clear hf hm
    go_enter Tryd.func58, Tryd.ntmps58
    go_wp2
    all_goals (go_ret; exact ⟨rfl, (Below.refl _ _).alloc (Nat.le_refl _) _⟩)
  · have g1 : 0 ≤ r ∧ r ≤ 24 ∧ 0 ≤ c ∧ c ≤ 12 := by omega
    obtain ⟨r0, r1, c0, c1⟩ := g1
    obtain ⟨R, rfl⟩ := Int.eq_ofNat_of_zero_le r0
    obtain ⟨C, rfl⟩ := Int.eq_ofNat_of_zero_le c0
    have hrc : (R : Int) * C ≤ 288 := by
      have := Nat.mul_le_mul (show R ≤ 24 by omega) (show C ≤ 12 by omega)
      rw [← Int.natCast_mul]; omega
    have hrc0 : 0 ≤ (R : Int) * C := by rw [← Int.natCast_mul]; omega
    have hl := hm.len
    have hmx := hm.max
    unfold maxLen at hmx
    by_cases h2 : (n : Int) = R * C
    · have hne : ((n : Int) != R * C) = false := by simp [h2]
      have hn : n ≤ 288 := by omega
      have hf : matFault R C xs = if inEnds xs then 0 else 1 := by unfold matFault; rw [if_neg h1, if_neg (by rw [hl]; omega)]
      have HF := Lib.hid hf
      clear hf h2 h1
      go_enter Tryd.func58, Tryd.ntmps58
      go_wp2
      go_loop [37] (fun i => ∃ k : Nat, k ≤ n ∧ i = .int .i64 k ∧ ∀ j, j < k → clamp (ix xs j) = ix xs j) (fun i => n - (intOf i).toNat)
      case atStart => exact ⟨0, Nat.zero_le _, rfl, fun j hj => absurd hj (Nat.not_lt_zero _)⟩
      case round =>
        obtain ⟨k, hk, rfl, hpre⟩ := hrel
        have HP := Lib.hid hpre
        clear hpre
        by_cases hlt : k < n
        · have hn0 : 0 < n := by omega
          obtain rfl := hm.ptr hn0
          have hb0 := hm.lt hn0
          have hb := lt_add hb0
          have hc := hm.cell k hlt
          by_cases hx : clamp (ix xs k) = ix xs k
          · have hxx : (clamp (ix xs k) != ix xs k) = false := by simp [hx]
            have HX := Lib.hid hx
            clear hx
            go_wp2_with (go_at_call 65; refine (clamp_any _ _).mono ?_; rintro e w' ⟨rfl, rfl⟩)
            go_round
            case rel => exact ⟨k + 1, by omega, by go_num, fun j hj => by
              by_cases e : j = k
              · rw [e]; exact HX.out
              · exact HP.out j (by omega)⟩
            case measure => simp [intOf]; omega
          · have hxx : (clamp (ix xs k) != ix xs k) = true := by simp [hx]
            have HX := Lib.hid hx
            clear hx
            go_wp2_with (go_at_call 65; refine (clamp_any _ _).mono ?_; rintro e w' ⟨rfl, rfl⟩)
            go_ret
            refine ⟨ret_val ?_, (Below.refl _ _).alloc (Nat.le_refl _) _⟩
            show Value.iface _ _ = _
            rw [← errV_err (k := 1) (by omega)]
            rw [HF.out, if_neg (fun h => HX.out (h k (by rw [hl]; exact hlt)))]
        · go_wp2
          go_ret
          refine ⟨ret_val ?_, (Below.refl _ _).alloc (Nat.le_refl _) _⟩
          show Value.nilIface = _
          rw [HF.out, if_pos (show inEnds xs from fun j hj => HP.out j (by omega)), errV_nil rfl]
    · have hne : ((n : Int) != R * C) = true := by simp [h2]
      have hf : matFault R C xs = 2 := by unfold matFault; rw [if_neg h1, if_pos (by rw [hl]; exact h2)]
      rw [hf, errV_err (by omega)]
      clear hf h1 h2
      go_enter Tryd.func58, Tryd.ntmps58
      go_wp2
      go_ret
      exact ⟨rfl, (Below.refl _ _).alloc (Nat.le_refl _) _⟩
end Go.Proofs.YtgknjikjjklaiaaDoor
end
section
set_option linter.unusedVariables false
set_option linter.unusedSimpArgs false
namespace Go.Proofs.YtgknjikjjklaiaaDoor
open Go.RowKit Gal

set_option maxRecDepth 100000 in
set_option maxHeartbeats 1000000 in
theorem matrices_any (ma mb : Mat) (va vb : Value) (w : World) (ha : MatAt w va ma) (hb : MatAt w vb mb) :
    Calls Tryd.prog 41 #[va, vb] w fun e w' => e = .returned (.bool (decide (ma = mb))) ∧ Below w.heap.size w w' := by
  obtain ⟨r0, c0, xs⟩ := ma
  obtain ⟨r1, c1, ys⟩ := mb
  obtain ⟨a0, n0, k0, b0, o0, rfl, h0⟩ := ha
  obtain ⟨a1, n1, k1, b1, o1, rfl, h1⟩ := hb
  dsimp only at h0 h1
  by_cases h : r0 = r1 ∧ c0 = c1
  · obtain ⟨rfl, rfl⟩ := h
    have e1 : (r0 != r0) = false := by simp
    have e2 : (c0 != c0) = false := by simp
    go_enter Tryd.func41, Tryd.ntmps41
    go_wp2_with fail
    refine (ints_any _ _ _ _ _ _ _ _ _ _ xs ys _ (h0.alloc _ |>.alloc _) (h1.alloc _ |>.alloc _)).mono ?_
    rintro e w1 ⟨rfl, m, rfl⟩
    go_wp2
    go_ret
    refine ⟨ret_val ?_, (by repeat (first | fail | (with_reducible exact Below.refl _ _) | (with_reducible refine Below.al ?_ _) | (with_reducible refine Below.drN ?_ _) | (with_reducible refine Below.drew ?_) | (with_reducible refine Below.st ?_ ?_ _; rotate_left 1; (first | (dsimp only; omega) | omega | (simp; omega) | simp)) | exact Below.refl _ _))⟩
    simp [go_sem]
  · have hd : decide ((⟨r0, c0, xs⟩ : Mat) = ⟨r1, c1, ys⟩) = false := decide_eq_false (fun e => h (by simp only [Mat.mk.injEq] at e; exact ⟨e.1, e.2.1⟩))
    rw [hd]
    clear hd
    by_cases hr : r0 = r1
    · subst hr
      have e1 : (r0 != r0) = false := by simp
      have e2 : (c0 != c1) = true := by simp; intro e; exact h ⟨rfl, e⟩
      clear h
      go_enter Tryd.func41, Tryd.ntmps41
      go_wp2
      go_ret
      exact ⟨rfl, (by repeat (first | fail | (with_reducible exact Below.refl _ _) | (with_reducible refine Below.al ?_ _) | (with_reducible refine Below.drN ?_ _) | (with_reducible refine Below.drew ?_) | (with_reducible refine Below.st ?_ ?_ _; rotate_left 1; (first | (dsimp only; omega) | omega | (simp; omega) | simp)) | exact Below.refl _ _))⟩
    · have e1 : (r0 != r1) = true := by simp [hr]
      clear h hr
      go_enter Tryd.func41, Tryd.ntmps41
      go_wp2
      go_ret
      exact ⟨rfl, (by repeat (first | fail | (with_reducible exact Below.refl _ _) | (with_reducible refine Below.al ?_ _) | (with_reducible refine Below.drN ?_ _) | (with_reducible refine Below.drew ?_) | (with_reducible refine Below.st ?_ ?_ _; rotate_left 1; (first | (dsimp only; omega) | omega | (simp; omega) | simp)) | exact Below.refl _ _))⟩
end Go.Proofs.YtgknjikjjklaiaaDoor
end
