/- Texts joined: Blank, RefFix, Ref2. -/
import Derived.Test.YtgknjikjjklaiaaGreatDoorJ09
import Derived.Test.YtgknjikjjklaiaaGreatDoorJ12
import Derived.Test.YtgknjikjjklaiaaGreatDoorJ05
import Derived.Lib.Hide
import Derived.Test.YtgknjikjjklaiaaGreatDoorJ01
import Derived.Test.YtgknjikjjklaiaaGreatDoorJ04
import Derived.BigQuiet
import Derived.BigRegion
section
set_option linter.unusedVariables false
set_option linter.unusedSimpArgs false
namespace Go.Proofs.YtgknjikjjklaiaaGreatDoor
open Go.RowKit Gal
theorem ints_box {w : World} {b : Nat} {xs : List Int} {t : TypeId} (h : Box w b (xs.map (Value.int .i64)) t) (hl : xs.length ≤ maxLen) : IntsAt w (some ⟨b, 0, none⟩) xs.length xs.length b 0 xs := by
 refine ⟨rfl, Nat.le_refl _, hl, fun _ => rfl, fun _ => h.lt, fun i hi => ?_⟩
 rw [Nat.zero_add, h.cell]
 unfold ix
 rw [List.getElem?_map, List.getElem?_eq_getElem hi]
 rfl
set_option maxRecDepth 100000 in
set_option maxHeartbeats 1000000 in
theorem blank_any (R C : Nat) (hR : R ≤ 24) (hC : C ≤ 24) (w : World) :
  Calls Tryz.prog 36 #[.int .i64 R, .int .i64 C] w fun e w' =>
   ∃ b, e = .returned (.agg #[.int .i64 R, .int .i64 C, .slice (some ⟨b, 0, none⟩) (R * C) (R * C)]) ∧ w.heap.size ≤ b ∧ Box w' b ((zeros (R * C)).map (Value.int .i64)) 3 ∧ Below w.heap.size w w' := by
 have hrc : R * C ≤ 576 := Nat.mul_le_mul hR hC
 have hrc' : (R : Int) * C ≤ 576 := by rw [← Int.natCast_mul]; omega
 have hrc0 : 0 ≤ (R : Int) * C := by rw [← Int.natCast_mul]; omega
 obtain ⟨i0, hi, hz0, hz1, hz2⟩ := info_parts info_int
 have hmk := fun W => run_make_rowN (P := Tryz.prog) 23 3 i0 _ Tryz.underlying23 hi hz0 .i64 .i64 (R * C) (R * C) ((R : Int) * C) ((R : Int) * C) (by rw [Int.natCast_mul]) (by rw [Int.natCast_mul]) (Nat.le_refl _) (by rw [hz2]; omega) (by omega) W
 rw [hz1, Nat.mul_one] at hmk
 have hmc : (madeCells (Value.int .i64 0).cells (R * C)) = ((zeros (R * C)).map (Value.int .i64)).toArray := by
  apply Array.toList_inj.1
  show (madeCells #[Value.int .i64 0] (R * C)).toList = _
  rw [toList_madeCells_one]
  simp [zeros]
 rw [hmc] at hmk
 clear hmc
 go_enter Tryz.func36, Tryz.ntmps36
 go_wp2
 refine bodyPost_ret (v := .agg #[.int .i64 R, .int .i64 C, .slice (some ⟨w.heap.size + 1, 0, none⟩) (R * C) (R * C)]) (by simp [results, Tryz.results36, go_sem]) rfl ⟨w.heap.size + 1, rfl, by omega, ?_, Below.x0⟩
 exact Box.new' _ _ _ _ (by simp)
end Go.Proofs.YtgknjikjjklaiaaGreatDoor
end
section
set_option linter.unusedVariables false
set_option linter.unusedSimpArgs false
namespace Go.Proofs.YtgknjikjjklaiaaGreatDoor
open Go.RowKit
theorem radd_any (a b : Int) (w : World) : Calls Tryz.prog 39 #[.int .i64 a, .int .i64 b] w fun e w' => e = .returned (.int .i64 (Gal.add a b)) ∧ w = w' := by
 have h1 := Gal.clamp_lo a; have h2 := Gal.clamp_hi a; have h3 := Gal.clamp_lo b; have h4 := Gal.clamp_hi b
 go_enter Tryz.func39, Tryz.ntmps39
 go_wp2_with (go_at_call 68; refine (rclamp_any _ _).mono ?_; rintro e w' ⟨rfl, rfl⟩)
 go_ret
 exact ⟨rfl, rfl⟩
theorem rsub_any (a b : Int) (w : World) : Calls Tryz.prog 37 #[.int .i64 a, .int .i64 b] w fun e w' => e = .returned (.int .i64 (Gal.sub a b)) ∧ w = w' := by
 have h1 := Gal.clamp_lo a; have h2 := Gal.clamp_hi a; have h3 := Gal.clamp_lo b; have h4 := Gal.clamp_hi b
 go_enter Tryz.func37, Tryz.ntmps37
 go_wp2_with (go_at_call 68; refine (rclamp_any _ _).mono ?_; rintro e w' ⟨rfl, rfl⟩)
 go_ret
 exact ⟨rfl, rfl⟩
theorem tdiv_neg {p : Int} (h : p < 0) : p.tdiv 256 = -((-p) / 256) := by
 have h1 : (-(-p)).tdiv 256 = -((-p).tdiv 256) := Int.neg_tdiv _ _
 rw [Int.neg_neg] at h1
 rw [h1, Int.tdiv_eq_ediv_of_nonneg (by omega)]
theorem rmul_any (a b : Int) (w : World) : Calls Tryz.prog 38 #[.int .i64 a, .int .i64 b] w fun e w' => e = .returned (.int .i64 (Gal.mul a b)) ∧ w = w' := by
 have h1 := Gal.clamp_lo a; have h2 := Gal.clamp_hi a; have h3 := Gal.clamp_lo b; have h4 := Gal.clamp_hi b
 obtain ⟨h5, h6⟩ := Gal.mul_bd a b
 have hm : Gal.mul a b = Gal.clamp (Gal.clamp a * Gal.clamp b / 256) := rfl
 rw [hm]
 clear hm
 by_cases h0 : Gal.clamp a * Gal.clamp b < 0
 ·obtain ⟨Q, hQ⟩ : ∃ Q, (Gal.clamp a * Gal.clamp b).tdiv 256 = Q := ⟨_, rfl⟩
  have hq := tdiv_neg h0
  rw [hQ] at hq
  have q1 : -4611686014132420609 ≤ Q * 256 := by omega
  have q2 : Q * 256 ≤ 0 := by omega
  by_cases hz : Q * 256 = Gal.clamp a * Gal.clamp b
  ·have hne : (Q * 256 != Gal.clamp a * Gal.clamp b) = false := by simp [hz]
   have hr : Gal.clamp a * Gal.clamp b / 256 = Q := by omega
   have HR := Lib.hid hr
   clear hr hz hq
   go_enter Tryz.func38, Tryz.ntmps38
   go_wp2_with (go_at_call 68; refine (rclamp_any _ _).mono ?_; rintro e w' ⟨rfl, rfl⟩)
   go_ret
   exact ⟨ret_int (by rw [HR.out]), rfl⟩
  ·have hne : (Q * 256 != Gal.clamp a * Gal.clamp b) = true := by simp [hz]
   have hr : Gal.clamp a * Gal.clamp b / 256 = Q - 1 := by omega
   have HR := Lib.hid hr
   clear hr hz hq
   go_enter Tryz.func38, Tryz.ntmps38
   go_wp2_with (go_at_call 68; refine (rclamp_any _ _).mono ?_; rintro e w' ⟨rfl, rfl⟩)
   go_ret
   exact ⟨ret_int (by rw [HR.out]), rfl⟩
 ·have hr : (Gal.clamp a * Gal.clamp b).tdiv 256 = Gal.clamp a * Gal.clamp b / 256 := Int.tdiv_eq_ediv_of_nonneg (by omega)
  go_enter Tryz.func38, Tryz.ntmps38
  go_wp2_with (go_at_call 68; refine (rclamp_any _ _).mono ?_; rintro e w' ⟨rfl, rfl⟩)
  go_ret
  exact ⟨rfl, rfl⟩
end Go.Proofs.YtgknjikjjklaiaaGreatDoor
end
section
set_option linter.unusedVariables false
set_option linter.unusedSimpArgs false
namespace Go.Proofs.YtgknjikjjklaiaaGreatDoor
open Go.RowKit Gal
theorem ints_pad {w : World} {b n : Nat} {g : Nat → Int} {t : TypeId} (h : Box w b ((pad g n n).map (Value.int .i64)) t) (hl : n ≤ maxLen) : IntsAt w (some ⟨b, 0, none⟩) n n b 0 (upto g n) := by
 rw [pad_full] at h
 have := ints_box h (by rw [upto_length]; exact hl)
 rw [upto_length] at this
 exact this
set_option maxRecDepth 100000 in
set_option maxHeartbeats 1000000 in
theorem refMatAdd_any (R K : Nat) (hR : R ≤ 24) (hK : K ≤ 12) (xs ys : List Int) (va vb : Value) (w : World) (ha : MatAt w va ⟨R, K, xs⟩) (hb : MatAt w vb ⟨R, K, ys⟩) (hl0 : xs.length = R * K) (hl1 : ys.length = R * K) :
  Calls Tryz.prog 81 #[va, vb] w fun e w' => ∃ v, e = .returned v ∧ MatNew w.heap.size w' v ⟨R, K, upto (fun k => add (ix xs k) (ix ys k)) (R * K)⟩ ∧ Below w.heap.size w w' := by
 obtain ⟨a0, n0, k0, b0, o0, rfl, h0⟩ := ha
 obtain ⟨a1, n1, k1, b1, o1, rfl, h1⟩ := hb
 dsimp only at h0 h1
 obtain rfl : R * K = n0 := by rw [← hl0]; exact h0.len
 obtain rfl : R * K = n1 := by rw [← hl1]; exact h1.len
 have hrk : R * K ≤ 288 := Nat.mul_le_mul hR hK
 go_enter Tryz.func81, Tryz.ntmps81
 go_wp2_with fail
 refine (blank_any R K (by omega) (by omega) _).mono ?_
 rintro e w1 ⟨b, rfl, hbb, hB, hb1⟩
 go_wp2
 have hw1 : Below w.heap.size w w1 := (Below.x1 hb1)
 have hzb : b < w1.heap.size := hB.lt
 have hz1 := hb1.size
 simp at hz1 hbb
 have B0 := (((Box.new w [.int .i64 R, .int .i64 K, .slice a0 (R * K) k0] 25).alloc _).alloc _).keep hb1
 have B0c := B0.cell
 have B0f := B0.thawed
 have B0z := B0.lt
 have B0k := lt_add B0z
 have B1 := ((Box.new' _ (w.heap.size + 1) [.int .i64 R, .int .i64 K, .slice a1 (R * K) k1] 25 (by simp)).alloc _).keep hb1
 have B1c := B1.cell
 have B1f := B1.thawed
 have B1z := B1.lt
 have B1k := lt_add B1z
 have B2 := (Box.new' _ (w.heap.size + 1 + 1) [.int .i64 0, .int .i64 0, .slice none 0 0] 25 (by simp)).keep hb1
 have B2c := B2.cell
 have B2f := B2.thawed
 have B2z := B2.lt
 have B2k := lt_add B2z
 have l0 := h0.lt
 have l1 := h1.lt
 replace h0 := h0.keep hw1
 replace h1 := h1.keep hw1
 go_loopw [6] (fun i wr => ∃ k : Nat, k ≤ R * K ∧ i = .int .i64 k ∧ Far (· = b) w1 wr ∧ Box wr w1.heap.size [.int .i64 R, .int .i64 K, .slice (some ⟨b, 0, none⟩) (R * K) (R * K)] 25 ∧
   Box wr b ((pad (fun k => add (ix xs k) (ix ys k)) (R * K) k).map (Value.int .i64)) 3) (fun i _ => R * K - (intOf i).toNat)
 case atStart => exact ⟨0, Nat.zero_le _, rfl, (Far.refl _ _).al _, Box.new _ _ _, by rw [pad_zero]; exact hB.alloc _⟩
 case round =>
  obtain ⟨k, hk, rfl, hfr, Bm, Bc⟩ := hrel
  have Bmc := Bm.cell
  have Bmf := Bm.thawed
  have Bmz := Bm.lt
  replace B0 := B0.farS hfr (by omega)
  have B0c := B0.cell
  have B0f := B0.thawed
  have B0z := B0.lt
  have B0k := lt_add B0z
  replace B1 := B1.farS hfr (by omega)
  have B1c := B1.cell
  have B1f := B1.thawed
  have B1z := B1.lt
  have B1k := lt_add B1z
  replace B2 := B2.farS hfr (by omega)
  have B2c := B2.cell
  have B2f := B2.thawed
  have B2z := B2.lt
  have B2k := lt_add B2z
  replace h0 := h0.farS hfr (by intro hn e; have := l0 hn; omega)
  replace h1 := h1.farS hfr (by intro hn e; have := l1 hn; omega)
  by_cases hlt : k < R * K
  ·obtain rfl := h0.ptr (by omega)
   obtain rfl := h1.ptr (by omega)
   have c0 := h0.cell k hlt
   have c1 := h1.cell k hlt
   have cc := Bc.icell (k := k) (by rw [pad_length]; exact hlt)
   rw [pad_ix hlt, if_neg (Nat.lt_irrefl _)] at cc
   have hltI : (k : Int) < (R : Int) * K := by rw [← Int.natCast_mul]; omega
   have cf := Bc.thawed k
   go_wp2_with fail
   refine wp_region_still_tail 14 (by kernel_rfl) (by kernel_rfl) ?_
   simp only [List.take_succ_cons, List.take_zero, List.drop_succ_cons, List.drop_zero]
   repeat (first | still_call (still0 (radd_any _ _ _)) | still_step)
   refine wpStill_nil ?_
   go_wp2
   go_roundw
   case rel =>
    refine ⟨k + 1, by omega, by go_num, (hfr.drew).st (fun _ => rfl) _, Bm.far (a := ⟨b, k, none⟩) (by dsimp only; omega) _, ?_⟩
    have hs := Bc.iset k (add (ix xs k) (ix ys k))
    rw [pad_set (g := fun k => add (ix xs k) (ix ys k)) hlt] at hs
    exact hs
   case measure => simp [intOf]; omega
  ·skip
   obtain rfl : k = R * K := by omega
   have hbl := Far.toBelow hw1 hfr (by omega) (by rintro k rfl; omega)
   go_wp2
   refine bodyPost_ret (v := .agg #[.int .i64 R, .int .i64 K, .slice (some ⟨b, 0, none⟩) (R * K) (R * K)]) (by simp [results, Tryz.results81, go_sem, B2c]) rfl ⟨_, rfl, MatNew.mk (fun _ => by omega) ((ints_pad Bc (by unfold maxLen; omega)).set3 (fun _ => by omega) _ _ _), (Below.y0 hbl)⟩
set_option maxRecDepth 100000 in
set_option maxHeartbeats 1000000 in
theorem refMatTimes_any (R K : Nat) (hR : R ≤ 24) (hK : K ≤ 12) (xs : List Int) (x : Int) (va : Value) (w : World) (ha : MatAt w va ⟨R, K, xs⟩) (hl0 : xs.length = R * K) :
  Calls Tryz.prog 67 #[va, .int .i64 x] w fun e w' => ∃ v, e = .returned v ∧ MatNew w.heap.size w' v ⟨R, K, upto (fun k => mul (ix xs k) x) (R * K)⟩ ∧ Below w.heap.size w w' := by
 obtain ⟨a0, n0, k0, b0, o0, rfl, h0⟩ := ha
 dsimp only at h0
 obtain rfl : R * K = n0 := by rw [← hl0]; exact h0.len
 have hrk : R * K ≤ 288 := Nat.mul_le_mul hR hK
 go_enter Tryz.func67, Tryz.ntmps67
 go_wp2_with fail
 refine (blank_any R K (by omega) (by omega) _).mono ?_
 rintro e w1 ⟨b, rfl, hbb, hB, hb1⟩
 go_wp2
 have hw1 : Below w.heap.size w w1 := (Below.x1 hb1)
 have hzb : b < w1.heap.size := hB.lt
 have hz1 := hb1.size
 simp at hz1 hbb
 have B0 := ((Box.new w [.int .i64 R, .int .i64 K, .slice a0 (R * K) k0] 25).alloc _).keep hb1
 have B0c := B0.cell
 have B0f := B0.thawed
 have B0z := B0.lt
 have B0k := lt_add B0z
 have B2 := (Box.new' _ (w.heap.size + 1) [.int .i64 0, .int .i64 0, .slice none 0 0] 25 (by simp)).keep hb1
 have B2c := B2.cell
 have B2f := B2.thawed
 have B2z := B2.lt
 have B2k := lt_add B2z
 have l0 := h0.lt
 replace h0 := h0.keep hw1
 go_loopw [6] (fun i wr => ∃ k : Nat, k ≤ R * K ∧ i = .int .i64 k ∧ Far (· = b) w1 wr ∧ Box wr w1.heap.size [.int .i64 R, .int .i64 K, .slice (some ⟨b, 0, none⟩) (R * K) (R * K)] 25 ∧
   Box wr b ((pad (fun k => mul (ix xs k) x) (R * K) k).map (Value.int .i64)) 3) (fun i _ => R * K - (intOf i).toNat)
 case atStart => exact ⟨0, Nat.zero_le _, rfl, (Far.refl _ _).al _, Box.new _ _ _, by rw [pad_zero]; exact hB.alloc _⟩
 case round =>
  obtain ⟨k, hk, rfl, hfr, Bm, Bc⟩ := hrel
  have Bmc := Bm.cell
  have Bmf := Bm.thawed
  have Bmz := Bm.lt
  replace B0 := B0.farS hfr (by omega)
  have B0c := B0.cell
  have B0f := B0.thawed
  have B0z := B0.lt
  have B0k := lt_add B0z
  replace B2 := B2.farS hfr (by omega)
  have B2c := B2.cell
  have B2f := B2.thawed
  have B2z := B2.lt
  have B2k := lt_add B2z
  replace h0 := h0.farS hfr (by intro hn e; have := l0 hn; omega)
  by_cases hlt : k < R * K
  ·obtain rfl := h0.ptr (by omega)
   have c0 := h0.cell k hlt
   have cc := Bc.icell (k := k) (by rw [pad_length]; exact hlt)
   rw [pad_ix hlt, if_neg (Nat.lt_irrefl _)] at cc
   have hltI : (k : Int) < (R : Int) * K := by rw [← Int.natCast_mul]; omega
   have cf := Bc.thawed k
   go_wp2_with fail
   refine wp_region_still_tail 10 (by kernel_rfl) (by kernel_rfl) ?_
   simp only [List.take_succ_cons, List.take_zero, List.drop_succ_cons, List.drop_zero]
   repeat (first | still_call (still0 (rmul_any _ _ _)) | still_step)
   refine wpStill_nil ?_
   go_wp2
   go_roundw
   case rel =>
    refine ⟨k + 1, by omega, by go_num, (hfr.drew).st (fun _ => rfl) _, Bm.far (a := ⟨b, k, none⟩) (by dsimp only; omega) _, ?_⟩
    have hs := Bc.iset k (mul (ix xs k) x)
    rw [pad_set (g := fun k => mul (ix xs k) x) hlt] at hs
    exact hs
   case measure => simp [intOf]; omega
  ·skip
   obtain rfl : k = R * K := by omega
   have hbl := Far.toBelow hw1 hfr (by omega) (by rintro k rfl; omega)
   go_wp2
   refine bodyPost_ret (v := .agg #[.int .i64 R, .int .i64 K, .slice (some ⟨b, 0, none⟩) (R * K) (R * K)]) (by simp [results, Tryz.results67, go_sem, B2c]) rfl ⟨_, rfl, MatNew.mk (fun _ => by omega) ((ints_pad Bc (by unfold maxLen; omega)).set3 (fun _ => by omega) _ _ _), (Below.y0 hbl)⟩
end Go.Proofs.YtgknjikjjklaiaaGreatDoor
end
