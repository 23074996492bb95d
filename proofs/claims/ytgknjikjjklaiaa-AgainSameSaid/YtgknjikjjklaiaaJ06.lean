/- Texts joined: SameI, Fix, ErrV, Mat1. -/
import Derived.Test.YtgknjikjjklaiaaProg
import Derived.Test.YtgknjikjjklaiaaJ04
import Derived.WalkKit
import Derived.WalkLawsBesides
import Derived.WalkSpells
import Derived.BigQuiet
import Derived.IntWalk
import Derived.RegionTactic
import Derived.Test.YtgknjikjjklaiaaJ01
import Derived.ProofKit
section
set_option linter.unusedVariables false
set_option linter.unusedSimpArgs false
namespace Go.Proofs.Ytgknjikjjklaiaa
open Go.RowKit Gal
theorem ret_int {k : IntKind} {a b : Int} (h : a = b) : Ending.returned (.int k a) = .returned (.int k b) := by rw [h]
def pickOf (c n : Int) : Int := (if c < 0 then -(c + 1) else c) % n
theorem pick_any (c n : Int) (w : World) (hc : -9223372036854775808 ≤ c) (hc' : c ≤ 9223372036854775807) (hn : 0 < n) (hn' : n ≤ 1000000) :
  Calls Try.prog 7 #[.int .i64 c, .int .i64 n] w fun e w' => e = .returned (.int .i64 (pickOf c n)) ∧ w = w' := by
 by_cases h : c < 0
 ·go_enter Try.func7, Try.ntmps7
  go_wp2
  go_ret
  refine ⟨ret_int ?_, rfl⟩
  show -((c + 1).tmod n) = _
  unfold pickOf
  rw [if_pos h, ← Int.neg_tmod, Int.tmod_eq_emod_of_nonneg (by omega)]
 ·go_enter Try.func7, Try.ntmps7
  go_wp2
  go_ret
  refine ⟨ret_int ?_, rfl⟩
  unfold pickOf
  rw [if_neg (by omega)]
set_option maxRecDepth 100000 in
set_option maxHeartbeats 1000000 in
theorem ints_any (a0 a1 : Option Addr) (n0 n1 k0 k1 b0 b1 o0 o1 : Nat) (xs ys : List Int) (w : World) (h0 : IntsAt w a0 n0 k0 b0 o0 xs) (h1 : IntsAt w a1 n1 k1 b1 o1 ys) :
  Calls Try.prog 35 #[.slice a0 n0 k0, .slice a1 n1 k1] w fun e w' => e = .returned (.bool (decide (xs = ys))) ∧ ∃ m, w' = w.drewN m := by
 have m0 := h0.max
 have m1 := h1.max
 unfold maxLen at m0 m1
 have l0 := h0.len
 have l1 := h1.len
 by_cases hn : n0 = n1
 ·subst hn
  have hne : ((n0 : Int) != (n0 : Int)) = false := by simp
  go_enter Try.func35, Try.ntmps35
  go_wp2
  go_loopw [5] (fun i wr => ∃ k m : Nat, k ≤ n0 ∧ i = .int .i64 k ∧ wr = w.drewN m ∧ (∀ j, j < k → ix xs j = ix ys j)) (fun i _ => n0 - (intOf i).toNat)
  case atStart => exact ⟨0, 0, Nat.zero_le _, rfl, rfl, fun j hj => absurd hj (Nat.not_lt_zero _)⟩
  case round =>
   obtain ⟨k, m, hk, rfl, rfl, hpre⟩ := hrel
   have HP := Lib.hid hpre
   clear hpre
   by_cases hlt : k < n0
   ·have hltI : (k : Int) < (n0 : Int) := by omega
    obtain rfl := h0.ptr (by omega)
    obtain rfl := h1.ptr (by omega)
    have c0 := h0.cell k hlt
    have c1 := h1.cell k hlt
    by_cases hx : ix xs k = ix ys k
    ·have hxx : (ix xs k != ix ys k) = false := by simp [hx]
     have HX := Lib.hid hx
     clear hx
     go_wp2
     go_quiet (fail)
     go_wp2
     go_roundw
     case rel => exact ⟨k + 1, _, by omega, by go_num, rfl, fun j hj => by
      by_cases e : j = k
      ·rw [e]; exact HX.out
      ·exact HP.out j (by omega)⟩
     case measure => simp [intOf]; omega
    ·have hxx : (ix xs k != ix ys k) = true := by simp [hx]
     have HX := Lib.hid hx
     clear hx
     go_wp2
     go_quiet (fail)
     go_wp2
     go_ret
     refine ⟨ret_val ?_, m + nq, World.drewN_drewN _ _ _⟩
     rw [decide_eq_false (fun h => HX.out (by rw [h]))]
     rfl
   ·go_wp2
    go_ret
    refine ⟨ret_val ?_, m, rfl⟩
    rw [decide_eq_true (eq_of_ix (by omega) (fun j hj => HP.out j (by omega)))]
    rfl
 ·have hne : ((n0 : Int) != (n1 : Int)) = true := by simp; omega
  have hd : decide (xs = ys) = false := decide_eq_false (fun h => hn (by rw [← l0, ← l1, h]))
  rw [hd]
  clear hd hn l0 l1
  go_enter Try.func35, Try.ntmps35
  go_wp2
  go_ret
  exact ⟨rfl, 0, rfl⟩
instance : DecidableEq Mat := fun a b => by
 obtain ⟨r, c, xs⟩ := a
 obtain ⟨r', c', ys⟩ := b
 simp only [Mat.mk.injEq]
 exact inferInstance
end Go.Proofs.Ytgknjikjjklaiaa
end
section

set_option linter.unusedVariables false
set_option linter.unusedSimpArgs false
namespace Go.Proofs.Ytgknjikjjklaiaa
open Go.RowKit
theorem clamp_any (x : Int) (w : World) : Calls Try.prog 36 #[.int .i64 x] w fun e w' => e = .returned (.int .i64 (Gal.clamp x)) ∧ w = w' := by
 go_enter Try.func36, Try.ntmps36
 go_wp2
 all_goals (go_ret; exact ⟨ret_int (by unfold Gal.clamp; omega), rfl⟩)
theorem add_any (a b : Int) (w : World) : Calls Try.prog 30 #[.int .i64 a, .int .i64 b] w fun e w' => e = .returned (.int .i64 (Gal.add a b)) ∧ w = w' := by
 have h1 := Gal.clamp_lo a; have h2 := Gal.clamp_hi a; have h3 := Gal.clamp_lo b; have h4 := Gal.clamp_hi b
 go_enter Try.func30, Try.ntmps30
 go_wp2_with (go_at_call 36; refine (clamp_any _ _).mono ?_; rintro e w' ⟨rfl, rfl⟩)
 go_ret
 exact ⟨rfl, rfl⟩
theorem sub_any (a b : Int) (w : World) : Calls Try.prog 39 #[.int .i64 a, .int .i64 b] w fun e w' => e = .returned (.int .i64 (Gal.sub a b)) ∧ w = w' := by
 have h1 := Gal.clamp_lo a; have h2 := Gal.clamp_hi a; have h3 := Gal.clamp_lo b; have h4 := Gal.clamp_hi b
 go_enter Try.func39, Try.ntmps39
 go_wp2_with (go_at_call 36; refine (clamp_any _ _).mono ?_; rintro e w' ⟨rfl, rfl⟩)
 go_ret
 exact ⟨rfl, rfl⟩
theorem mul_any (a b : Int) (w : World) : Calls Try.prog 32 #[.int .i64 a, .int .i64 b] w fun e w' => e = .returned (.int .i64 (Gal.mul a b)) ∧ w = w' := by
 have h1 := Gal.clamp_lo a; have h2 := Gal.clamp_hi a; have h3 := Gal.clamp_lo b; have h4 := Gal.clamp_hi b
 obtain ⟨h5, h6⟩ := Gal.mul_bd a b
 go_enter Try.func32, Try.ntmps32
 go_wp2_with (go_at_call 36; refine (clamp_any _ _).mono ?_; rintro e w' ⟨rfl, rfl⟩)
 go_ret
 exact ⟨rfl, rfl⟩
end Go.Proofs.Ytgknjikjjklaiaa
end
section
set_option linter.unusedVariables false
set_option linter.unusedSimpArgs false
namespace Go.Proofs.Ytgknjikjjklaiaa
def errV (k : Int) : Value := if k = 0 then .nilIface else .iface 56 (.int .i64 k)
theorem errV_nil {k : Int} (h : k = 0) : errV k = .nilIface := by unfold errV; rw [if_pos h]
theorem errV_err {k : Int} (h : k ≠ 0) : errV k = .iface 56 (.int .i64 k) := by unfold errV; rw [if_neg h]
end Go.Proofs.Ytgknjikjjklaiaa
end
section
set_option linter.unusedVariables false
set_option linter.unusedSimpArgs false
namespace Go.Proofs.Ytgknjikjjklaiaa
open Go.RowKit Gal
set_option maxHeartbeats 400000 in
theorem matCheck_any (r c : Int) (a : Option Addr) (n cap b off : Nat) (xs : List Int) (w : World) (hm : IntsAt w a n cap b off xs) :
  Calls Try.prog 22 #[.agg #[.int .i64 r, .int .i64 c, .slice a n cap]] w fun e w' => e = .returned (errV (matFault r c xs)) ∧ Below w.heap.size w w' := by
 by_cases h1 : r < 0 ∨ 24 < r ∨ c < 0 ∨ 12 < c
 ·have hf : matFault r c xs = 1 := by unfold matFault; rw [if_pos h1]
  rw [hf, errV_err (by omega)]
  clear hf hm
  go_enter Try.func22, Try.ntmps22
  go_wp2
  all_goals (go_ret; exact ⟨rfl, (Below.refl _ _).alloc (Nat.le_refl _) _⟩)
 ·have g1 : 0 ≤ r ∧ r ≤ 24 ∧ 0 ≤ c ∧ c ≤ 12 := by omega
  obtain ⟨r0, r1, c0, c1⟩ := g1
  obtain ⟨R, rfl⟩ := Int.eq_ofNat_of_zero_le r0
  obtain ⟨C, rfl⟩ := Int.eq_ofNat_of_zero_le c0
  have hrc : (R : Int) * C ≤ 288 := by
   have := Nat.mul_le_mul (show R ≤ 24 by omega) (show C ≤ 12 by omega)
   rw [← Int.natCast_mul]; omega
  have hrc0 : 0 ≤ (R : Int) * C := by rw [← Int.natCast_mul]; omega
  have hl := hm.len
  have hmx := hm.max
  unfold maxLen at hmx
  by_cases h2 : (n : Int) = R * C
  ·have hne : ((n : Int) != R * C) = false := by simp [h2]
   have hn : n ≤ 288 := by omega
   have hf : matFault R C xs = if inEnds xs then 0 else 1 := by unfold matFault; rw [if_neg h1, if_neg (by rw [hl]; omega)]
   have HF := Lib.hid hf
   clear hf h2 h1
   go_enter Try.func22, Try.ntmps22
   go_wp2
   go_loop [37] (fun i => ∃ k : Nat, k ≤ n ∧ i = .int .i64 k ∧ ∀ j, j < k → clamp (ix xs j) = ix xs j) (fun i => n - (intOf i).toNat)
   case atStart => exact ⟨0, Nat.zero_le _, rfl, fun j hj => absurd hj (Nat.not_lt_zero _)⟩
   case round =>
    obtain ⟨k, hk, rfl, hpre⟩ := hrel
    have HP := Lib.hid hpre
    clear hpre
    by_cases hlt : k < n
    ·have hn0 : 0 < n := by omega
     obtain rfl := hm.ptr hn0
     have hb0 := hm.lt hn0
     have hb := lt_add hb0
     have hc := hm.cell k hlt
     by_cases hx : clamp (ix xs k) = ix xs k
     ·have hxx : (clamp (ix xs k) != ix xs k) = false := by simp [hx]
      have HX := Lib.hid hx
      clear hx
      go_wp2_with (go_at_call 36; refine (clamp_any _ _).mono ?_; rintro e w' ⟨rfl, rfl⟩)
      go_round
      case rel => exact ⟨k + 1, by omega, by go_num, fun j hj => by
       by_cases e : j = k
       ·rw [e]; exact HX.out
       ·exact HP.out j (by omega)⟩
      case measure => simp [intOf]; omega
     ·have hxx : (clamp (ix xs k) != ix xs k) = true := by simp [hx]
      have HX := Lib.hid hx
      clear hx
      go_wp2_with (go_at_call 36; refine (clamp_any _ _).mono ?_; rintro e w' ⟨rfl, rfl⟩)
      go_ret
      refine ⟨ret_val ?_, (Below.refl _ _).alloc (Nat.le_refl _) _⟩
      show Value.iface _ _ = _
      rw [← errV_err (k := 1) (by omega)]
      rw [HF.out, if_neg (fun h => HX.out (h k (by rw [hl]; exact hlt)))]
    ·go_wp2
     go_ret
     refine ⟨ret_val ?_, (Below.refl _ _).alloc (Nat.le_refl _) _⟩
     show Value.nilIface = _
     rw [HF.out, if_pos (show inEnds xs from fun j hj => HP.out j (by omega)), errV_nil rfl]
  ·have hne : ((n : Int) != R * C) = true := by simp [h2]
   have hf : matFault R C xs = 2 := by unfold matFault; rw [if_neg h1, if_pos (by rw [hl]; exact h2)]
   rw [hf, errV_err (by omega)]
   clear hf h1 h2
   go_enter Try.func22, Try.ntmps22
   go_wp2
   go_ret
   exact ⟨rfl, (Below.refl _ _).alloc (Nat.le_refl _) _⟩
end Go.Proofs.Ytgknjikjjklaiaa
end
