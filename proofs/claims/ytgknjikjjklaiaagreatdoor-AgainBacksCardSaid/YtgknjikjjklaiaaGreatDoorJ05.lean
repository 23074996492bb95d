/- Texts joined: Mat1, Lay1. -/
import Derived.Test.YtgknjikjjklaiaaGreatDoorJ04
import Derived.Test.YtgknjikjjklaiaaGreatDoorJ01
import Derived.Test.YtgknjikjjklaiaaGreatDoorJ03
section
set_option linter.unusedVariables false
set_option linter.unusedSimpArgs false
namespace Go.Proofs.YtgknjikjjklaiaaGreatDoor
open Go.RowKit Gal
set_option maxHeartbeats 400000 in
theorem matCheck_any (r c : Int) (a : Option Addr) (n cap b off : Nat) (xs : List Int) (w : World) (hm : IntsAt w a n cap b off xs) :
  Calls Tryz.prog 47 #[.agg #[.int .i64 r, .int .i64 c, .slice a n cap]] w fun e w' => e = .returned (errV (matFault r c xs)) ∧ Below w.heap.size w w' := by
 by_cases h1 : r < 0 ∨ 24 < r ∨ c < 0 ∨ 12 < c
 ·have hf : matFault r c xs = 1 := by unfold matFault; rw [if_pos h1]
  rw [hf, errV_err (by omega)]
  clear hf hm
  go_enter Tryz.func47, Tryz.ntmps47
  go_wp2
  all_goals (go_ret; exact ⟨rfl, (Below.refl _ _).alloc (Nat.le_refl _) _⟩)
 ·have g1 : 0 ≤ r ∧ r ≤ 24 ∧ 0 ≤ c ∧ c ≤ 12 := by omega
  obtain ⟨r0, r1, c0, c1⟩ := g1
  obtain ⟨R, rfl⟩ := Int.eq_ofNat_of_zero_le r0
  obtain ⟨C, rfl⟩ := Int.eq_ofNat_of_zero_le c0
  have hrc : (R : Int) * C ≤ 288 := by
   have := Nat.mul_le_mul (show R ≤ 24 by omega) (show C ≤ 12 by omega)
   rw [← Int.natCast_mul]; omega
  have hrc0 : 0 ≤ (R : Int) * C := by rw [← Int.natCast_mul]; omega
  have hl := hm.len
  have hmx := hm.max
  unfold maxLen at hmx
  by_cases h2 : (n : Int) = R * C
  ·have hne : ((n : Int) != R * C) = false := by simp [h2]
   have hn : n ≤ 288 := by omega
   have hf : matFault R C xs = if inEnds xs then 0 else 1 := by unfold matFault; rw [if_neg h1, if_neg (by rw [hl]; omega)]
   have HF := Lib.hid hf
   clear hf h2 h1
   go_enter Tryz.func47, Tryz.ntmps47
   go_wp2
   go_loop [37] (fun i => ∃ k : Nat, k ≤ n ∧ i = .int .i64 k ∧ ∀ j, j < k → clamp (ix xs j) = ix xs j) (fun i => n - (intOf i).toNat)
   case atStart => exact ⟨0, Nat.zero_le _, rfl, fun j hj => absurd hj (Nat.not_lt_zero _)⟩
   case round =>
    obtain ⟨k, hk, rfl, hpre⟩ := hrel
    have HP := Lib.hid hpre
    clear hpre
    by_cases hlt : k < n
    ·have hn0 : 0 < n := by omega
     obtain rfl := hm.ptr hn0
     have hb0 := hm.lt hn0
     have hb := lt_add hb0
     have hc := hm.cell k hlt
     by_cases hx : clamp (ix xs k) = ix xs k
     ·have hxx : (clamp (ix xs k) != ix xs k) = false := by simp [hx]
      have HX := Lib.hid hx
      clear hx
      go_wp2_with (go_at_call 73; refine (clamp_any _ _).mono ?_; rintro e w' ⟨rfl, rfl⟩)
      go_round
      case rel => exact ⟨k + 1, by omega, by go_num, fun j hj => by
       by_cases e : j = k
       ·rw [e]; exact HX.out
       ·exact HP.out j (by omega)⟩
      case measure => simp [intOf]; omega
     ·have hxx : (clamp (ix xs k) != ix xs k) = true := by simp [hx]
      have HX := Lib.hid hx
      clear hx
      go_wp2_with (go_at_call 73; refine (clamp_any _ _).mono ?_; rintro e w' ⟨rfl, rfl⟩)
      go_ret
      refine ⟨ret_val ?_, (Below.refl _ _).alloc (Nat.le_refl _) _⟩
      show Value.iface _ _ = _
      rw [← errV_err (k := 1) (by omega)]
      rw [HF.out, if_neg (fun h => HX.out (h k (by rw [hl]; exact hlt)))]
    ·go_wp2
     go_ret
     refine ⟨ret_val ?_, (Below.refl _ _).alloc (Nat.le_refl _) _⟩
     show Value.nilIface = _
     rw [HF.out, if_pos (show inEnds xs from fun j hj => HP.out j (by omega)), errV_nil rfl]
  ·have hne : ((n : Int) != R * C) = true := by simp [h2]
   have hf : matFault R C xs = 2 := by unfold matFault; rw [if_neg h1, if_pos (by rw [hl]; exact h2)]
   rw [hf, errV_err (by omega)]
   clear hf h1 h2
   go_enter Tryz.func47, Tryz.ntmps47
   go_wp2
   go_ret
   exact ⟨rfl, (Below.refl _ _).alloc (Nat.le_refl _) _⟩
end Go.Proofs.YtgknjikjjklaiaaGreatDoor
end
section
set_option linter.unusedVariables false
set_option linter.unusedSimpArgs false
namespace Go.Proofs.YtgknjikjjklaiaaGreatDoor
open Go.RowKit Gal
theorem of_any (k : Int) (w : World) : Calls Tryz.prog 64 #[.int .i64 k] w fun e w' => e = .returned (if k = 1 then .iface 148 (.agg #[]) else if k = 2 then .iface 151 (.agg #[]) else if k = 3 then .iface 152 (.agg #[]) else if k = 4 then .iface 153 (.agg #[]) else .nilIface) ∧ w = w' := by
 by_cases h1 : k = 1
 ·subst h1
  rw [if_pos rfl]
  go_enter Tryz.func64, Tryz.ntmps64
  go_wp2
  go_ret
  exact ⟨rfl, rfl⟩
 ·by_cases h2 : k = 2
  ·subst h2
   rw [if_neg h1, if_pos rfl]
   go_enter Tryz.func64, Tryz.ntmps64
   go_wp2
   go_ret
   exact ⟨rfl, rfl⟩
  ·by_cases h3 : k = 3
   ·subst h3
    rw [if_neg h1, if_neg h2, if_pos rfl]
    go_enter Tryz.func64, Tryz.ntmps64
    go_wp2
    go_ret
    exact ⟨rfl, rfl⟩
   ·by_cases h4 : k = 4
    ·subst h4
     rw [if_neg h1, if_neg h2, if_neg h3, if_pos rfl]
     go_enter Tryz.func64, Tryz.ntmps64
     go_wp2
     go_ret
     exact ⟨rfl, rfl⟩
    ·rw [if_neg h1, if_neg h2, if_neg h3, if_neg h4]
     have q1 : (k == 1) = false := by simp [h1]
     have q2 : (k == 2) = false := by simp [h2]
     have q3 : (k == 3) = false := by simp [h3]
     have q4 : (k == 4) = false := by simp [h4]
     clear h1 h2 h3 h4
     go_enter Tryz.func64, Tryz.ntmps64
     go_wp2
     go_ret
     exact ⟨rfl, rfl⟩
theorem of_1 (w : World) : Calls Tryz.prog 64 #[.int .i64 1] w fun e w' => e = .returned (.iface 148 (.agg #[])) ∧ w = w' := of_any 1 w
theorem of_2 (w : World) : Calls Tryz.prog 64 #[.int .i64 2] w fun e w' => e = .returned (.iface 151 (.agg #[])) ∧ w = w' := of_any 2 w
theorem of_3 (w : World) : Calls Tryz.prog 64 #[.int .i64 3] w fun e w' => e = .returned (.iface 152 (.agg #[])) ∧ w = w' := of_any 3 w
theorem of_4 (w : World) : Calls Tryz.prog 64 #[.int .i64 4] w fun e w' => e = .returned (.iface 153 (.agg #[])) ∧ w = w' := of_any 4 w
theorem empty_any (r c : Int) (s : Value) (w : World) (hs : ∃ a n k, s = .slice a n k) : Calls Tryz.prog 142 #[.agg #[.int .i64 r, .int .i64 c, s]] w fun e w' => e = .returned (.bool (decide (r = 0 ∧ c = 0))) ∧ Below w.heap.size w w' := by
 obtain ⟨a, n, k, rfl⟩ := hs
 by_cases h1 : r = 0
 ·by_cases h2 : c = 0
  ·subst h1 h2
   rw [decide_eq_true ⟨rfl, rfl⟩]
   go_enter Tryz.func142, Tryz.ntmps142
   go_wp2
   go_ret
   exact ⟨rfl, Below.x0⟩
  ·subst h1
   rw [decide_eq_false (fun h => h2 h.2)]
   have q : (c == 0) = false := by simp [h2]
   clear h2
   go_enter Tryz.func142, Tryz.ntmps142
   go_wp2
   go_ret
   exact ⟨rfl, Below.x0⟩
 ·rw [decide_eq_false (fun h => h1 h.1)]
  have q : (r == 0) = false := by simp [h1]
  clear h1
  go_enter Tryz.func142, Tryz.ntmps142
  go_wp2
  go_ret
  exact ⟨rfl, Below.x0⟩
section
variable (l : Lay) (sw sb : Value) (w : World) (hsw : ∃ a n k, sw = .slice a n k) (hsb : ∃ a n k, sb = .slice a n k)
include hsw hsb
set_option maxRecDepth 100000
set_option maxHeartbeats 1000000
theorem fits_1 (hk : l.kind = 1) : Calls Tryz.prog 125 #[.agg #[], .agg #[.int .i64 l.kind, .int .i64 l.W.rows, .int .i64 l.W.cols, sw, .int .i64 l.B.rows, .int .i64 l.B.cols, sb]] w fun e w' => e = .returned (.bool (decide l.fits)) ∧ Below w.heap.size w w' := by
 have hd : decide l.fits = (decide (0 < l.W.rows) && decide (0 < l.W.cols) && decide (l.W.rows ≤ 12) && (l.B.rows == 1) && (l.B.cols == l.W.cols)) := by
  rw [Bool.eq_iff_iff]
  simp only [decide_eq_true_eq, Bool.and_eq_true, beq_iff_eq]
  unfold Lay.fits
  rw [hk]
  omega
 rw [hd]
 clear hd
 obtain ⟨a, n, k, rfl⟩ := hsw
 obtain ⟨a', n', k', rfl⟩ := hsb
 generalize l.kind = kd at *
 clear hk
 generalize l.W.rows = r0 at *
 generalize l.W.cols = c0 at *
 generalize l.B.rows = r1 at *
 generalize l.B.cols = c1 at *
 cases h1 : decide (0 < r0)
 ·go_enter Tryz.func125, Tryz.ntmps125
  go_wp2
  go_ret
  exact ⟨by simp, Below.x0⟩
 ·cases h2 : decide (0 < c0)
  ·go_enter Tryz.func125, Tryz.ntmps125
   go_wp2
   go_ret
   exact ⟨by simp, Below.x0⟩
  ·cases h3 : decide (r0 ≤ 12)
   ·go_enter Tryz.func125, Tryz.ntmps125
    go_wp2
    go_ret
    exact ⟨by simp, Below.x0⟩
   ·cases h4 : (r1 == 1)
    ·go_enter Tryz.func125, Tryz.ntmps125
     go_wp2
     go_ret
     exact ⟨by simp, Below.x0⟩
    ·cases h5 : (c1 == c0)
     all_goals
      go_enter Tryz.func125, Tryz.ntmps125
      go_wp2
      go_ret
      exact ⟨by simp, Below.x0⟩
theorem fits_2 (hk : l.kind = 2) : Calls Tryz.prog 139 #[.agg #[], .agg #[.int .i64 l.kind, .int .i64 l.W.rows, .int .i64 l.W.cols, sw, .int .i64 l.B.rows, .int .i64 l.B.cols, sb]] w fun e w' => e = .returned (.bool (decide l.fits)) ∧ Below w.heap.size w w' := by
 have hd : decide l.fits = (decide (l.W.rows = 0 ∧ l.W.cols = 0) && decide (l.B.rows = 0 ∧ l.B.cols = 0)) := by
  rw [Bool.eq_iff_iff]
  simp only [decide_eq_true_eq, Bool.and_eq_true, beq_iff_eq]
  unfold Lay.fits Mat.empty
  rw [hk]
  omega
 rw [hd]
 clear hd
 obtain ⟨a, n, k, rfl⟩ := hsw
 obtain ⟨a', n', k', rfl⟩ := hsb
 generalize l.kind = kd at *
 clear hk
 generalize l.W.rows = r0 at *
 generalize l.W.cols = c0 at *
 generalize l.B.rows = r1 at *
 generalize l.B.cols = c1 at *
 cases h1 : decide (r0 = 0 ∧ c0 = 0)
 ·have h1' := Lib.hid h1
  clear h1
  go_enter Tryz.func139, Tryz.ntmps139
  go_wp2_with fail
  refine (empty_any _ _ _ _ ⟨a, n, k, rfl⟩).mono ?_
  rw [h1'.out]
  rintro e w1 ⟨rfl, hb1⟩
  go_wp2
  go_ret
  exact ⟨by simp, (Below.x1 hb1)⟩
 ·cases h2 : decide (r1 = 0 ∧ c1 = 0)
  all_goals
   have h1' := Lib.hid h1
   have h2' := Lib.hid h2
   clear h1 h2
   go_enter Tryz.func139, Tryz.ntmps139
   go_wp2_with fail
   refine (empty_any _ _ _ _ ⟨a, n, k, rfl⟩).mono ?_
   rw [h1'.out]
   rintro e w1 ⟨rfl, hb1⟩
   have B2 := (Box.new' _ (w.heap.size + 1) [.int .i64 kd, .int .i64 r0, .int .i64 c0, .slice a n k, .int .i64 r1, .int .i64 c1, .slice a' n' k'] 82 (by simp)).keep hb1
   have B2c := B2.cell
   have B2f := B2.thawed
   have B2z := B2.lt
   have B2k := lt_add B2z
   go_wp2_with fail
   refine (empty_any _ _ _ _ ⟨a', n', k', rfl⟩).mono ?_
   rw [h2'.out]
   rintro e w2 ⟨rfl, hb2⟩
   go_wp2
   go_ret
   exact ⟨by simp, (Below.x2 hb2 hb1)⟩
theorem fits_3 (hk : l.kind = 3) : Calls Tryz.prog 145 #[.agg #[], .agg #[.int .i64 l.kind, .int .i64 l.W.rows, .int .i64 l.W.cols, sw, .int .i64 l.B.rows, .int .i64 l.B.cols, sb]] w fun e w' => e = .returned (.bool (decide l.fits)) ∧ Below w.heap.size w w' := by
 have hd : decide l.fits = ((l.W.rows == 1) && (l.W.cols == 1) && decide (l.B.rows = 0 ∧ l.B.cols = 0)) := by
  rw [Bool.eq_iff_iff]
  simp only [decide_eq_true_eq, Bool.and_eq_true, beq_iff_eq]
  unfold Lay.fits Mat.empty
  rw [hk]
  omega
 rw [hd]
 clear hd
 obtain ⟨a, n, k, rfl⟩ := hsw
 obtain ⟨a', n', k', rfl⟩ := hsb
 generalize l.kind = kd at *
 clear hk
 generalize l.W.rows = r0 at *
 generalize l.W.cols = c0 at *
 generalize l.B.rows = r1 at *
 generalize l.B.cols = c1 at *
 cases h1 : (r0 == 1)
 ·go_enter Tryz.func145, Tryz.ntmps145
  go_wp2
  go_ret
  exact ⟨by simp, Below.x0⟩
 ·cases h2 : (c0 == 1)
  ·go_enter Tryz.func145, Tryz.ntmps145
   go_wp2
   go_ret
   exact ⟨by simp, Below.x0⟩
  ·cases h3 : decide (r1 = 0 ∧ c1 = 0)
   all_goals
    have h3' := Lib.hid h3
    clear h3
    go_enter Tryz.func145, Tryz.ntmps145
    go_wp2_with fail
    refine (empty_any _ _ _ _ ⟨a', n', k', rfl⟩).mono ?_
    rw [h3'.out]
    rintro e w1 ⟨rfl, hb1⟩
    go_wp2
    go_ret
    exact ⟨by simp, (Below.x1 hb1)⟩
theorem fits_4 (hk : l.kind = 4) : Calls Tryz.prog 149 #[.agg #[], .agg #[.int .i64 l.kind, .int .i64 l.W.rows, .int .i64 l.W.cols, sw, .int .i64 l.B.rows, .int .i64 l.B.cols, sb]] w fun e w' => e = .returned (.bool (decide l.fits)) ∧ Below w.heap.size w w' := by
 have hd : decide l.fits = (decide (l.W.rows = 0 ∧ l.W.cols = 0) && (l.B.rows == 1) && decide (0 < l.B.cols)) := by
  rw [Bool.eq_iff_iff]
  simp only [decide_eq_true_eq, Bool.and_eq_true, beq_iff_eq]
  unfold Lay.fits Mat.empty
  rw [hk]
  omega
 rw [hd]
 clear hd
 obtain ⟨a, n, k, rfl⟩ := hsw
 obtain ⟨a', n', k', rfl⟩ := hsb
 generalize l.kind = kd at *
 clear hk
 generalize l.W.rows = r0 at *
 generalize l.W.cols = c0 at *
 generalize l.B.rows = r1 at *
 generalize l.B.cols = c1 at *
 cases h1 : decide (r0 = 0 ∧ c0 = 0)
 ·have h1' := Lib.hid h1
  clear h1
  go_enter Tryz.func149, Tryz.ntmps149
  go_wp2_with fail
  refine (empty_any _ _ _ _ ⟨a, n, k, rfl⟩).mono ?_
  rw [h1'.out]
  rintro e w1 ⟨rfl, hb1⟩
  go_wp2
  go_ret
  exact ⟨by simp, (Below.x1 hb1)⟩
 ·cases h2 : (r1 == 1)
  ·have h1' := Lib.hid h1
   clear h1
   go_enter Tryz.func149, Tryz.ntmps149
   go_wp2_with fail
   refine (empty_any _ _ _ _ ⟨a, n, k, rfl⟩).mono ?_
   rw [h1'.out]
   rintro e w1 ⟨rfl, hb1⟩
   have B2 := (Box.new' _ (w.heap.size + 1) [.int .i64 kd, .int .i64 r0, .int .i64 c0, .slice a n k, .int .i64 r1, .int .i64 c1, .slice a' n' k'] 82 (by simp)).keep hb1
   have B2c := B2.cell
   have B2f := B2.thawed
   have B2z := B2.lt
   have B2k := lt_add B2z
   go_wp2
   go_ret
   exact ⟨by simp, (Below.x1 hb1)⟩
  ·cases h3 : decide (0 < c1)
   all_goals
    have h1' := Lib.hid h1
    clear h1
    go_enter Tryz.func149, Tryz.ntmps149
    go_wp2_with fail
    refine (empty_any _ _ _ _ ⟨a, n, k, rfl⟩).mono ?_
    rw [h1'.out]
    rintro e w1 ⟨rfl, hb1⟩
    have B2 := (Box.new' _ (w.heap.size + 1) [.int .i64 kd, .int .i64 r0, .int .i64 c0, .slice a n k, .int .i64 r1, .int .i64 c1, .slice a' n' k'] 82 (by simp)).keep hb1
    have B2c := B2.cell
    have B2f := B2.thawed
    have B2z := B2.lt
    have B2k := lt_add B2z
    go_wp2
    go_ret
    exact ⟨by simp, (Below.x1 hb1)⟩
end
end Go.Proofs.YtgknjikjjklaiaaGreatDoor
end
