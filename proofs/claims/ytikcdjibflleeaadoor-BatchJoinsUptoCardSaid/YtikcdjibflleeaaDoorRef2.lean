/- Contracts of the reference: matrices that are filled cell by cell: MatAdd, MatTimes, MatRows, LossOf. -/
import Derived.Test.YtikcdjibflleeaaDoorBlank
import Derived.Test.YtikcdjibflleeaaDoorRefFix
import Derived.Test.YtikcdjibflleeaaDoorBaseP
import Derived.Test.YtikcdjibflleeaaDoorBaseR
import Derived.BigQuiet
import Derived.BigRegion
set_option linter.unusedVariables false
set_option linter.unusedSimpArgs false
namespace Go.Proofs.YtikcdjibflleeaaDoor
open Go.RowKit Gal

theorem ints_pad {w : World} {b n : Nat} {g : Nat → Int} {t : TypeId} (h : Box w b ((pad g n n).map (Value.int .i64)) t) (hl : n ≤ maxLen) : IntsAt w (some ⟨b, 0, none⟩) n n b 0 (upto g n) := by
  rw [pad_full] at h
  have := ints_box h (by rw [upto_length]; exact hl)
  rw [upto_length] at this
  exact this

set_option maxRecDepth 100000 in
set_option maxHeartbeats 1000000 in
theorem refMatAdd_any (R K : Nat) (hR : R ≤ 24) (hK : K ≤ 12) (xs ys : List Int) (va vb : Value) (w : World) (ha : MatAt w va ⟨R, K, xs⟩) (hb : MatAt w vb ⟨R, K, ys⟩) (hl0 : xs.length = R * K) (hl1 : ys.length = R * K) :
    Calls Tryd.prog 30 #[va, vb] w fun e w' => ∃ v, e = .returned v ∧ MatNew w.heap.size w' v ⟨R, K, upto (fun k => add (ix xs k) (ix ys k)) (R * K)⟩ ∧ Below w.heap.size w w' := by
  obtain ⟨a0, n0, k0, b0, o0, rfl, h0⟩ := ha
  obtain ⟨a1, n1, k1, b1, o1, rfl, h1⟩ := hb
  dsimp only at h0 h1
  obtain rfl : R * K = n0 := by rw [← hl0]; exact h0.len
  obtain rfl : R * K = n1 := by rw [← hl1]; exact h1.len
  have hrk : R * K ≤ 288 := Nat.mul_le_mul hR hK
  go_enter Tryd.func30, Tryd.ntmps30
  go_wp2_with fail
  refine (blank_any R K (by omega) (by omega) _).mono ?_
  rintro e w1 ⟨b, rfl, hbb, hB, hb1⟩
  go_wp2
  have hw1 : Below w.heap.size w w1 := (by repeat (first | fail | (with_reducible exact Below.refl _ _) | (with_reducible refine Below.al ?_ _) | (with_reducible refine Below.drN ?_ _) | (with_reducible refine Below.drew ?_) | (with_reducible refine Below.st ?_ ?_ _; rotate_left 1; (first | (dsimp only; omega) | omega | (simp; omega) | simp)) | (with_reducible refine Below.go ?_ hb1) | exact Below.refl _ _))
  have hzb : b < w1.heap.size := hB.lt
  have hz1 := hb1.size
  simp at hz1 hbb
  have B0 := (((Box.new w [.int .i64 R, .int .i64 K, .slice a0 (R * K) k0] 25).alloc _).alloc _).keep hb1
  have B0c := B0.cell
  have B0f := B0.thawed
  have B0z := B0.lt
  have B0k := lt_add B0z
  have B1 := ((Box.new' _ (w.heap.size + 1) [.int .i64 R, .int .i64 K, .slice a1 (R * K) k1] 25 (by simp)).alloc _).keep hb1
  have B1c := B1.cell
  have B1f := B1.thawed
  have B1z := B1.lt
  have B1k := lt_add B1z
  have B2 := (Box.new' _ (w.heap.size + 1 + 1) [.int .i64 0, .int .i64 0, .slice none 0 0] 25 (by simp)).keep hb1
  have B2c := B2.cell
  have B2f := B2.thawed
  have B2z := B2.lt
  have B2k := lt_add B2z
  have l0 := h0.lt
  have l1 := h1.lt
  replace h0 := h0.keep hw1
  replace h1 := h1.keep hw1
  go_loopw [6] (fun i wr => ∃ k : Nat, k ≤ R * K ∧ i = .int .i64 k ∧ Far (· = b) w1 wr ∧ Box wr w1.heap.size [.int .i64 R, .int .i64 K, .slice (some ⟨b, 0, none⟩) (R * K) (R * K)] 25 ∧
      Box wr b ((pad (fun k => add (ix xs k) (ix ys k)) (R * K) k).map (Value.int .i64)) 3) (fun i _ => R * K - (intOf i).toNat)
  case atStart => exact ⟨0, Nat.zero_le _, rfl, (Far.refl _ _).al _, Box.new _ _ _, by rw [pad_zero]; exact hB.alloc _⟩
  case round =>
    obtain ⟨k, hk, rfl, hfr, Bm, Bc⟩ := hrel
    have Bmc := Bm.cell
    have Bmf := Bm.thawed
    have Bmz := Bm.lt
    replace B0 := B0.farS hfr (by omega)
    have B0c := B0.cell
    have B0f := B0.thawed
    have B0z := B0.lt
    have B0k := lt_add B0z
    replace B1 := B1.farS hfr (by omega)
    have B1c := B1.cell
    have B1f := B1.thawed
    have B1z := B1.lt
    have B1k := lt_add B1z
    replace B2 := B2.farS hfr (by omega)
    have B2c := B2.cell
    have B2f := B2.thawed
    have B2z := B2.lt
    have B2k := lt_add B2z
    replace h0 := h0.farS hfr (by intro hn e; have := l0 hn; omega)
    replace h1 := h1.farS hfr (by intro hn e; have := l1 hn; omega)
    by_cases hlt : k < R * K
    · obtain rfl := h0.ptr (by omega)
      obtain rfl := h1.ptr (by omega)
      have c0 := h0.cell k hlt
      have c1 := h1.cell k hlt
      have cc := Bc.icell (k := k) (by rw [pad_length]; exact hlt)
      rw [pad_ix hlt, if_neg (Nat.lt_irrefl _)] at cc
      have hltI : (k : Int) < (R : Int) * K := by rw [← Int.natCast_mul]; omega
      have cf := Bc.thawed k
      go_wp2_with fail
      refine wp_region_still_tail 14 (by kernel_rfl) (by kernel_rfl) ?_
      simp only [List.take_succ_cons, List.take_zero, List.drop_succ_cons, List.drop_zero]
      repeat (first | still_call (still0 (radd_any _ _ _)) | still_step)
      refine wpStill_nil ?_
      go_wp2
      go_roundw
      case rel =>
        refine ⟨k + 1, by omega, by go_num, (hfr.drew).st (fun _ => rfl) _, Bm.far (a := ⟨b, k, none⟩) (by dsimp only; omega) _, ?_⟩
        have hs := Bc.iset k (add (ix xs k) (ix ys k))
        rw [pad_set (g := fun k => add (ix xs k) (ix ys k)) hlt] at hs
        exact hs
      case measure => simp [intOf]; omega
    · skip
      obtain rfl : k = R * K := by omega
      have hbl := Far.toBelow hw1 hfr (by omega) (by rintro k rfl; omega)
      go_wp2
      refine bodyPost_ret (v := .agg #[.int .i64 R, .int .i64 K, .slice (some ⟨b, 0, none⟩) (R * K) (R * K)]) (by simp [results, Tryd.results30, go_sem, B2c]) rfl ⟨_, rfl, MatNew.mk (fun _ => by omega) ((ints_pad Bc (by unfold maxLen; omega)).set3 (fun _ => by omega) _ _ _), (by repeat (first | fail | (with_reducible exact Below.refl _ _) | (with_reducible exact hbl) | (with_reducible refine Below.al ?_ _) | (with_reducible refine Below.drN ?_ _) | (with_reducible refine Below.drew ?_) | (with_reducible refine Below.st ?_ ?_ _; rotate_left 1; (first | (dsimp only; omega) | omega | (simp; omega) | simp)) | exact Below.refl _ _ | exact hbl))⟩
set_option maxRecDepth 100000 in
set_option maxHeartbeats 1000000 in
theorem refMatTimes_any (R K : Nat) (hR : R ≤ 24) (hK : K ≤ 12) (xs : List Int) (x : Int) (va : Value) (w : World) (ha : MatAt w va ⟨R, K, xs⟩) (hl0 : xs.length = R * K) :
    Calls Tryd.prog 54 #[va, .int .i64 x] w fun e w' => ∃ v, e = .returned v ∧ MatNew w.heap.size w' v ⟨R, K, upto (fun k => mul (ix xs k) x) (R * K)⟩ ∧ Below w.heap.size w w' := by
  obtain ⟨a0, n0, k0, b0, o0, rfl, h0⟩ := ha
  dsimp only at h0
  obtain rfl : R * K = n0 := by rw [← hl0]; exact h0.len
  have hrk : R * K ≤ 288 := Nat.mul_le_mul hR hK
  go_enter Tryd.func54, Tryd.ntmps54
  go_wp2_with fail
  refine (blank_any R K (by omega) (by omega) _).mono ?_
  rintro e w1 ⟨b, rfl, hbb, hB, hb1⟩
  go_wp2
  have hw1 : Below w.heap.size w w1 := (by repeat (first | fail | (with_reducible exact Below.refl _ _) | (with_reducible refine Below.al ?_ _) | (with_reducible refine Below.drN ?_ _) | (with_reducible refine Below.drew ?_) | (with_reducible refine Below.st ?_ ?_ _; rotate_left 1; (first | (dsimp only; omega) | omega | (simp; omega) | simp)) | (with_reducible refine Below.go ?_ hb1) | exact Below.refl _ _))
  have hzb : b < w1.heap.size := hB.lt
  have hz1 := hb1.size
  simp at hz1 hbb
  have B0 := ((Box.new w [.int .i64 R, .int .i64 K, .slice a0 (R * K) k0] 25).alloc _).keep hb1
  have B0c := B0.cell
  have B0f := B0.thawed
  have B0z := B0.lt
  have B0k := lt_add B0z
  have B2 := (Box.new' _ (w.heap.size + 1) [.int .i64 0, .int .i64 0, .slice none 0 0] 25 (by simp)).keep hb1
  have B2c := B2.cell
  have B2f := B2.thawed
  have B2z := B2.lt
  have B2k := lt_add B2z
  have l0 := h0.lt
  replace h0 := h0.keep hw1
  go_loopw [6] (fun i wr => ∃ k : Nat, k ≤ R * K ∧ i = .int .i64 k ∧ Far (· = b) w1 wr ∧ Box wr w1.heap.size [.int .i64 R, .int .i64 K, .slice (some ⟨b, 0, none⟩) (R * K) (R * K)] 25 ∧
      Box wr b ((pad (fun k => mul (ix xs k) x) (R * K) k).map (Value.int .i64)) 3) (fun i _ => R * K - (intOf i).toNat)
  case atStart => exact ⟨0, Nat.zero_le _, rfl, (Far.refl _ _).al _, Box.new _ _ _, by rw [pad_zero]; exact hB.alloc _⟩
  case round =>
    obtain ⟨k, hk, rfl, hfr, Bm, Bc⟩ := hrel
    have Bmc := Bm.cell
    have Bmf := Bm.thawed
    have Bmz := Bm.lt
    replace B0 := B0.farS hfr (by omega)
    have B0c := B0.cell
    have B0f := B0.thawed
    have B0z := B0.lt
    have B0k := lt_add B0z
    replace B2 := B2.farS hfr (by omega)
    have B2c := B2.cell
    have B2f := B2.thawed
    have B2z := B2.lt
    have B2k := lt_add B2z
    replace h0 := h0.farS hfr (by intro hn e; have := l0 hn; omega)
    by_cases hlt : k < R * K
    · obtain rfl := h0.ptr (by omega)
      have c0 := h0.cell k hlt
      have cc := Bc.icell (k := k) (by rw [pad_length]; exact hlt)
      rw [pad_ix hlt, if_neg (Nat.lt_irrefl _)] at cc
      have hltI : (k : Int) < (R : Int) * K := by rw [← Int.natCast_mul]; omega
      have cf := Bc.thawed k
      go_wp2_with fail
      refine wp_region_still_tail 10 (by kernel_rfl) (by kernel_rfl) ?_
      simp only [List.take_succ_cons, List.take_zero, List.drop_succ_cons, List.drop_zero]
      repeat (first | still_call (still0 (rmul_any _ _ _)) | still_step)
      refine wpStill_nil ?_
      go_wp2
      go_roundw
      case rel =>
        refine ⟨k + 1, by omega, by go_num, (hfr.drew).st (fun _ => rfl) _, Bm.far (a := ⟨b, k, none⟩) (by dsimp only; omega) _, ?_⟩
        have hs := Bc.iset k (mul (ix xs k) x)
        rw [pad_set (g := fun k => mul (ix xs k) x) hlt] at hs
        exact hs
      case measure => simp [intOf]; omega
    · skip
      obtain rfl : k = R * K := by omega
      have hbl := Far.toBelow hw1 hfr (by omega) (by rintro k rfl; omega)
      go_wp2
      refine bodyPost_ret (v := .agg #[.int .i64 R, .int .i64 K, .slice (some ⟨b, 0, none⟩) (R * K) (R * K)]) (by simp [results, Tryd.results54, go_sem, B2c]) rfl ⟨_, rfl, MatNew.mk (fun _ => by omega) ((ints_pad Bc (by unfold maxLen; omega)).set3 (fun _ => by omega) _ _ _), (by repeat (first | fail | (with_reducible exact Below.refl _ _) | (with_reducible exact hbl) | (with_reducible refine Below.al ?_ _) | (with_reducible refine Below.drN ?_ _) | (with_reducible refine Below.drew ?_) | (with_reducible refine Below.st ?_ ?_ _; rotate_left 1; (first | (dsimp only; omega) | omega | (simp; omega) | simp)) | exact Below.refl _ _ | exact hbl))⟩
end Go.Proofs.YtikcdjibflleeaaDoor
