/- Texts joined: Ref1, RefFix. -/
import Derived.Test.YtgknjikjjklaiaaGreatDoorJ04
import Derived.Test.YtgknjikjjklaiaaGreatDoorJ03
import Derived.Test.YtgknjikjjklaiaaGreatDoorJ01
import Derived.Lib.Hide
section
set_option linter.unusedVariables false
set_option linter.unusedSimpArgs false
namespace Go.Proofs.YtgknjikjjklaiaaGreatDoor
open Go.RowKit Gal
theorem clamp_iff (x : Int) : clamp x = x ↔ -2147483647 ≤ x ∧ x ≤ 2147483647 := by unfold clamp; omega
set_option maxRecDepth 100000 in
set_option maxHeartbeats 1000000 in
theorem refMatFault_any (m : Mat) (v : Value) (w : World) (h : MatAt w v m) :
  Calls Tryz.prog 33 #[v] w fun e w' => e = .returned (.int .i64 m.fault) ∧ Below w.heap.size w w' := by
 obtain ⟨r, c, xs⟩ := m
 obtain ⟨a, n, cap, b, off, rfl, hm⟩ := h
 unfold Mat.fault
 dsimp only at hm ⊢
 by_cases h1 : r < 0 ∨ 24 < r ∨ c < 0 ∨ 12 < c
 ·have hf : matFault r c xs = 1 := by unfold matFault; rw [if_pos h1]
  rw [hf]
  clear hf hm
  go_enter Tryz.func33, Tryz.ntmps33
  go_wp2
  all_goals (go_ret; exact ⟨rfl, Below.x0⟩)
 ·have g1 : 0 ≤ r ∧ r ≤ 24 ∧ 0 ≤ c ∧ c ≤ 12 := by omega
  obtain ⟨r0, r1, c0, c1⟩ := g1
  obtain ⟨R, rfl⟩ := Int.eq_ofNat_of_zero_le r0
  obtain ⟨C, rfl⟩ := Int.eq_ofNat_of_zero_le c0
  have hrc : (R : Int) * C ≤ 288 := by
   have := Nat.mul_le_mul (show R ≤ 24 by omega) (show C ≤ 12 by omega)
   rw [← Int.natCast_mul]; omega
  have hrc0 : 0 ≤ (R : Int) * C := by rw [← Int.natCast_mul]; omega
  have hl := hm.len
  have hmx := hm.max
  unfold maxLen at hmx
  by_cases h2 : (n : Int) = R * C
  ·have hne : ((n : Int) != R * C) = false := by simp [h2]
   have hn : n ≤ 288 := by omega
   have hf : matFault R C xs = if inEnds xs then 0 else 1 := by unfold matFault; rw [if_neg h1, if_neg (by rw [hl]; omega)]
   have HF := Lib.hid hf
   clear hf h2 h1
   go_enter Tryz.func33, Tryz.ntmps33
   go_wp2
   go_loop [3] (fun i => ∃ k : Nat, k ≤ n ∧ i = .int .i64 k ∧ ∀ j, j < k → clamp (ix xs j) = ix xs j) (fun i => n - (intOf i).toNat)
   case atStart => exact ⟨0, Nat.zero_le _, rfl, fun j hj => absurd hj (Nat.not_lt_zero _)⟩
   case round =>
    obtain ⟨k, hk, rfl, hpre⟩ := hrel
    have HP := Lib.hid hpre
    clear hpre
    by_cases hlt : k < n
    ·have hn0 : 0 < n := by omega
     obtain rfl := hm.ptr hn0
     have hb0 := hm.lt hn0
     have hb := lt_add hb0
     have hc := hm.cell k hlt
     by_cases hx : clamp (ix xs k) = ix xs k
     ·have hxx := (clamp_iff _).1 hx
      have y1 : decide (ix xs k < -2147483647) = false := decide_eq_false (by omega)
      have y2 : decide (2147483647 < ix xs k) = false := decide_eq_false (by omega)
      clear hxx
      have HX := Lib.hid hx
      clear hx
      go_wp2
      go_round
      case rel => exact ⟨k + 1, by omega, by go_num, fun j hj => by
       by_cases e : j = k
       ·rw [e]; exact HX.out
       ·exact HP.out j (by omega)⟩
      case measure => simp [intOf]; omega
     ·have hor : decide (ix xs k < -2147483647) = true ∨ decide (ix xs k < -2147483647) = false ∧ decide (2147483647 < ix xs k) = true := by
       rw [clamp_iff] at hx
       simp only [decide_eq_true_eq, decide_eq_false_iff_not]
       omega
      have HX := Lib.hid hx
      clear hx
      rcases hor with hor | ⟨hor, hor2⟩
      all_goals
       go_wp2
       go_ret
       refine ⟨ret_val ?_, Below.x0⟩
       rw [HF.out, if_neg (fun h => HX.out (h k (by rw [hl]; exact hlt)))]
       rfl
    ·go_wp2
     go_ret
     refine ⟨ret_val ?_, Below.x0⟩
     rw [HF.out, if_pos (show inEnds xs from fun j hj => HP.out j (by omega))]
     rfl
  ·have hne : ((n : Int) != R * C) = true := by simp [h2]
   have hf : matFault R C xs = 2 := by unfold matFault; rw [if_neg h1, if_pos (by rw [hl]; exact h2)]
   rw [hf]
   clear hf h1 h2
   go_enter Tryz.func33, Tryz.ntmps33
   go_wp2
   go_ret
   exact ⟨rfl, Below.x0⟩
theorem firstFault_pair (a b : Mat) : firstFault [a, b] = if a.fault = 0 then b.fault else a.fault := by
 by_cases h : a.fault = 0 <;> by_cases h' : b.fault = 0 <;> simp [firstFault, h, h']
set_option maxRecDepth 100000 in
set_option maxHeartbeats 1000000 in
theorem refLossFault_any (ma mb : Mat) (va vb : Value) (w : World) (ha : MatAt w va ma) (hb : MatAt w vb mb) :
  Calls Tryz.prog 8 #[va, vb] w fun e w' => e = .returned (.int .i64 (lossFault ma mb)) ∧ Below w.heap.size w w' := by
 obtain ⟨a0, n0, k0, b0, o0, rfl, h0⟩ := ha
 obtain ⟨a1, n1, k1, b1, o1, rfl, h1⟩ := hb
 have hL : lossFault ma mb = if ma.fault = 0 then (if mb.fault = 0 then (if ma.rows = mb.rows ∧ ma.cols = mb.cols then 0 else 2) else mb.fault) else ma.fault := by
  unfold lossFault
  rw [firstFault_pair]
  by_cases h : ma.fault = 0 <;> by_cases h' : mb.fault = 0 <;> simp [h, h']
 rw [hL]
 clear hL
 by_cases f0 : ma.fault = 0
 ·rw [if_pos f0]
  by_cases f1 : mb.fault = 0
  ·rw [if_pos f1]
   have F0 := Lib.hid f0
   have F1 := Lib.hid f1
   clear f0 f1
   by_cases hs : ma.rows = mb.rows ∧ ma.cols = mb.cols
   ·rw [if_pos hs]
    have e1 : (ma.rows != mb.rows) = false := by simp [hs.1]
    have e2 : (ma.cols != mb.cols) = false := by simp [hs.2]
    clear hs
    go_enter Tryz.func8, Tryz.ntmps8
    go_wp2_with fail
    refine (refMatFault_any ma _ _ (MatAt.mk (h0.alloc _ |>.alloc _))).mono ?_
    rw [F0.out]
    rintro e w1 ⟨rfl, hb1⟩
    have B0 := ((Box.new w _ 25).alloc _).keep hb1
    have B0c := B0.cell
    have B0f := B0.thawed
    have B0z := B0.lt
    have B0k := lt_add B0z
    have B1 := (Box.new' _ (w.heap.size + 1) _ 25 (by simp)).keep hb1
    have B1c := B1.cell
    have B1f := B1.thawed
    have B1z := B1.lt
    have B1k := lt_add B1z
    have hkw1 : Below w.heap.size w w1 := (Below.x1 hb1)
    replace h0 := h0.keep hkw1
    replace h1 := h1.keep hkw1
    go_wp2_with fail
    refine (refMatFault_any mb _ _ (MatAt.mk h1)).mono ?_
    rw [F1.out]
    rintro e w2 ⟨rfl, hb2⟩
    have hkw2 : Below w1.heap.size w1 w2 := (Below.x1 hb2)
    replace B0 := B0.keep hkw2
    replace B0c := B0.cell
    replace B0f := B0.thawed
    replace B0z := B0.lt
    replace B0k := lt_add B0z
    replace B1 := B1.keep hkw2
    replace B1c := B1.cell
    replace B1f := B1.thawed
    replace B1z := B1.lt
    replace B1k := lt_add B1z
    go_wp2
    go_ret
    exact ⟨rfl, (Below.x2 hb2 hb1)⟩
   ·rw [if_neg hs]
    have hor : (ma.rows != mb.rows) = true ∨ (ma.rows != mb.rows) = false ∧ (ma.cols != mb.cols) = true := by
     by_cases h : ma.rows = mb.rows
     ·right; exact ⟨by simp [h], by simp; intro h'; exact hs ⟨h, h'⟩⟩
     ·left; simp [h]
    clear hs
    rcases hor with hr | ⟨hr, hc⟩
    all_goals
     go_enter Tryz.func8, Tryz.ntmps8
     go_wp2_with fail
     refine (refMatFault_any ma _ _ (MatAt.mk (h0.alloc _ |>.alloc _))).mono ?_
     rw [F0.out]
     rintro e w1 ⟨rfl, hb1⟩
     have B0 := ((Box.new w _ 25).alloc _).keep hb1
     have B0c := B0.cell
     have B0f := B0.thawed
     have B0z := B0.lt
     have B0k := lt_add B0z
     have B1 := (Box.new' _ (w.heap.size + 1) _ 25 (by simp)).keep hb1
     have B1c := B1.cell
     have B1f := B1.thawed
     have B1z := B1.lt
     have B1k := lt_add B1z
     have hkw1 : Below w.heap.size w w1 := (Below.x1 hb1)
     replace h0 := h0.keep hkw1
     replace h1 := h1.keep hkw1
     go_wp2_with fail
     refine (refMatFault_any mb _ _ (MatAt.mk h1)).mono ?_
     rw [F1.out]
     rintro e w2 ⟨rfl, hb2⟩
     have hkw2 : Below w1.heap.size w1 w2 := (Below.x1 hb2)
     replace B0 := B0.keep hkw2
     replace B0c := B0.cell
     replace B0f := B0.thawed
     replace B0z := B0.lt
     replace B0k := lt_add B0z
     replace B1 := B1.keep hkw2
     replace B1c := B1.cell
     replace B1f := B1.thawed
     replace B1z := B1.lt
     replace B1k := lt_add B1z
     go_wp2
     go_ret
     exact ⟨rfl, (Below.x2 hb2 hb1)⟩
  ·rw [if_neg f1]
   have F0 := Lib.hid f0
   have q1 : (mb.fault == 0) = false := by simp [f1]
   clear f0 f1
   go_enter Tryz.func8, Tryz.ntmps8
   go_wp2_with fail
   refine (refMatFault_any ma _ _ (MatAt.mk (h0.alloc _ |>.alloc _))).mono ?_
   rw [F0.out]
   rintro e w1 ⟨rfl, hb1⟩
   have B0 := ((Box.new w _ 25).alloc _).keep hb1
   have B0c := B0.cell
   have B0f := B0.thawed
   have B0z := B0.lt
   have B0k := lt_add B0z
   have B1 := (Box.new' _ (w.heap.size + 1) _ 25 (by simp)).keep hb1
   have B1c := B1.cell
   have B1f := B1.thawed
   have B1z := B1.lt
   have B1k := lt_add B1z
   have hkw1 : Below w.heap.size w w1 := (Below.x1 hb1)
   replace h0 := h0.keep hkw1
   replace h1 := h1.keep hkw1
   go_wp2_with fail
   refine (refMatFault_any mb _ _ (MatAt.mk h1)).mono ?_
   rintro e w2 ⟨rfl, hb2⟩
   have hkw2 : Below w1.heap.size w1 w2 := (Below.x1 hb2)
   replace B0 := B0.keep hkw2
   replace B0c := B0.cell
   replace B0f := B0.thawed
   replace B0z := B0.lt
   replace B0k := lt_add B0z
   replace B1 := B1.keep hkw2
   replace B1c := B1.cell
   replace B1f := B1.thawed
   replace B1z := B1.lt
   replace B1k := lt_add B1z
   go_wp2
   go_ret
   exact ⟨rfl, (Below.x2 hb2 hb1)⟩
 ·rw [if_neg f0]
  have q1 : (ma.fault == 0) = false := by simp [f0]
  clear f0
  go_enter Tryz.func8, Tryz.ntmps8
  go_wp2_with fail
  refine (refMatFault_any ma _ _ (MatAt.mk (h0.alloc _ |>.alloc _))).mono ?_
  rintro e w1 ⟨rfl, hb1⟩
  have B0 := ((Box.new w _ 25).alloc _).keep hb1
  have B0c := B0.cell
  have B0f := B0.thawed
  have B0z := B0.lt
  have B0k := lt_add B0z
  have B1 := (Box.new' _ (w.heap.size + 1) _ 25 (by simp)).keep hb1
  have B1c := B1.cell
  have B1f := B1.thawed
  have B1z := B1.lt
  have B1k := lt_add B1z
  go_wp2
  go_ret
  exact ⟨rfl, (Below.x1 hb1)⟩
end Go.Proofs.YtgknjikjjklaiaaGreatDoor
end
section
set_option linter.unusedVariables false
set_option linter.unusedSimpArgs false
namespace Go.Proofs.YtgknjikjjklaiaaGreatDoor
open Go.RowKit
theorem radd_any (a b : Int) (w : World) : Calls Tryz.prog 39 #[.int .i64 a, .int .i64 b] w fun e w' => e = .returned (.int .i64 (Gal.add a b)) ∧ w = w' := by
 have h1 := Gal.clamp_lo a; have h2 := Gal.clamp_hi a; have h3 := Gal.clamp_lo b; have h4 := Gal.clamp_hi b
 go_enter Tryz.func39, Tryz.ntmps39
 go_wp2_with (go_at_call 68; refine (rclamp_any _ _).mono ?_; rintro e w' ⟨rfl, rfl⟩)
 go_ret
 exact ⟨rfl, rfl⟩
theorem rsub_any (a b : Int) (w : World) : Calls Tryz.prog 37 #[.int .i64 a, .int .i64 b] w fun e w' => e = .returned (.int .i64 (Gal.sub a b)) ∧ w = w' := by
 have h1 := Gal.clamp_lo a; have h2 := Gal.clamp_hi a; have h3 := Gal.clamp_lo b; have h4 := Gal.clamp_hi b
 go_enter Tryz.func37, Tryz.ntmps37
 go_wp2_with (go_at_call 68; refine (rclamp_any _ _).mono ?_; rintro e w' ⟨rfl, rfl⟩)
 go_ret
 exact ⟨rfl, rfl⟩
theorem tdiv_neg {p : Int} (h : p < 0) : p.tdiv 256 = -((-p) / 256) := by
 have h1 : (-(-p)).tdiv 256 = -((-p).tdiv 256) := Int.neg_tdiv _ _
 rw [Int.neg_neg] at h1
 rw [h1, Int.tdiv_eq_ediv_of_nonneg (by omega)]
theorem rmul_any (a b : Int) (w : World) : Calls Tryz.prog 38 #[.int .i64 a, .int .i64 b] w fun e w' => e = .returned (.int .i64 (Gal.mul a b)) ∧ w = w' := by
 have h1 := Gal.clamp_lo a; have h2 := Gal.clamp_hi a; have h3 := Gal.clamp_lo b; have h4 := Gal.clamp_hi b
 obtain ⟨h5, h6⟩ := Gal.mul_bd a b
 have hm : Gal.mul a b = Gal.clamp (Gal.clamp a * Gal.clamp b / 256) := rfl
 rw [hm]
 clear hm
 by_cases h0 : Gal.clamp a * Gal.clamp b < 0
 ·obtain ⟨Q, hQ⟩ : ∃ Q, (Gal.clamp a * Gal.clamp b).tdiv 256 = Q := ⟨_, rfl⟩
  have hq := tdiv_neg h0
  rw [hQ] at hq
  have q1 : -4611686014132420609 ≤ Q * 256 := by omega
  have q2 : Q * 256 ≤ 0 := by omega
  by_cases hz : Q * 256 = Gal.clamp a * Gal.clamp b
  ·have hne : (Q * 256 != Gal.clamp a * Gal.clamp b) = false := by simp [hz]
   have hr : Gal.clamp a * Gal.clamp b / 256 = Q := by omega
   have HR := Lib.hid hr
   clear hr hz hq
   go_enter Tryz.func38, Tryz.ntmps38
   go_wp2_with (go_at_call 68; refine (rclamp_any _ _).mono ?_; rintro e w' ⟨rfl, rfl⟩)
   go_ret
   exact ⟨ret_int (by rw [HR.out]), rfl⟩
  ·have hne : (Q * 256 != Gal.clamp a * Gal.clamp b) = true := by simp [hz]
   have hr : Gal.clamp a * Gal.clamp b / 256 = Q - 1 := by omega
   have HR := Lib.hid hr
   clear hr hz hq
   go_enter Tryz.func38, Tryz.ntmps38
   go_wp2_with (go_at_call 68; refine (rclamp_any _ _).mono ?_; rintro e w' ⟨rfl, rfl⟩)
   go_ret
   exact ⟨ret_int (by rw [HR.out]), rfl⟩
 ·have hr : (Gal.clamp a * Gal.clamp b).tdiv 256 = Gal.clamp a * Gal.clamp b / 256 := Int.tdiv_eq_ediv_of_nonneg (by omega)
  go_enter Tryz.func38, Tryz.ntmps38
  go_wp2_with (go_at_call 68; refine (rclamp_any _ _).mono ?_; rintro e w' ⟨rfl, rfl⟩)
  go_ret
  exact ⟨rfl, rfl⟩
end Go.Proofs.YtgknjikjjklaiaaGreatDoor
end
