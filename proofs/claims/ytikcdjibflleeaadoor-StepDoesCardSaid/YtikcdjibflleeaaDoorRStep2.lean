/- Contracts of the reference: stepPart. -/
import Derived.Test.YtikcdjibflleeaaDoorPStep
import Derived.Test.YtikcdjibflleeaaDoorRef2
import Derived.Test.YtikcdjibflleeaaDoorStep1
set_option linter.unusedVariables false
set_option linter.unusedSimpArgs false
set_option linter.unusedSectionVars false
namespace Go.Proofs.YtikcdjibflleeaaDoor
open Go.RowKit Gal
set_option maxRecDepth 100000
set_option maxHeartbeats 2000000
theorem refStepPart_any (R K : Nat) (hR : R ≤ 24) (hK : K ≤ 12) (xs ys zs : List Int) (ln kp : Int) (a0 a1 a2 : Option Addr) (k0 k1 k2 b0 b1 b2 o0 o1 o2 : Nat) (w : World) (x0 : IntsAt w a0 (R * K) k0 b0 o0 xs) (x1 : IntsAt w a1 (R * K) k1 b1 o1 ys) (x2 : IntsAt w a2 (R * K) k2 b2 o2 zs) :
    Calls Tryd.prog 37 #[.agg #[.int .i64 R, .int .i64 K, .slice a0 (R * K : Nat) k0], .agg #[.int .i64 R, .int .i64 K, .slice a1 (R * K : Nat) k1], .agg #[.int .i64 R, .int .i64 K, .slice a2 (R * K : Nat) k2], .agg #[.int .i64 ln, .int .i64 kp]] w fun e w' =>
      ∃ x y, e = .returned (.tuple #[x, y]) ∧ MatNew w.heap.size w' x (stepTo ⟨R, K, xs⟩ ⟨R, K, ys⟩ ⟨R, K, zs⟩ ln kp) ∧ MatNew w.heap.size w' y (stepSpeed ⟨R, K, xs⟩ ⟨R, K, ys⟩ ⟨R, K, zs⟩ kp) ∧ Below w.heap.size w w' := by
  have hrk : R * K ≤ 288 := Nat.mul_le_mul hR hK
  have l0 := x0.lt
  obtain ⟨kept, hkept⟩ : ∃ l, l = upto (fun k => mul (ix ys k) kp) (R * K) := ⟨_, rfl⟩
  obtain ⟨speed, hspeed⟩ : ∃ l, l = upto (fun k => add (ix kept k) (ix zs k)) (R * K) := ⟨_, rfl⟩
  obtain ⟨less, hless⟩ : ∃ l, l = upto (fun k => mul (ix speed k) ln) (R * K) := ⟨_, rfl⟩
  have HK1 : Hid (upto (fun k => mul (ix ys k) kp) (R * K) = kept) := Lib.hid hkept.symm
  have HK2 : Hid (upto (fun k => add (ix kept k) (ix zs k)) (R * K) = speed) := Lib.hid hspeed.symm
  have HK3 : Hid (upto (fun k => mul (ix speed k) ln) (R * K) = less) := Lib.hid hless.symm
  have HS1 : Hid (stepTo ⟨R, K, xs⟩ ⟨R, K, ys⟩ ⟨R, K, zs⟩ ln kp = ⟨R, K, upto (fun k => sub (ix xs k) (ix less k)) (R * K)⟩) := Lib.hid (by
    unfold stepTo
    rw [show (Mat.mk (R : Int) K xs).cells.length = R * K from x0.len]
    have : upto (fun k => sub (ix xs k) (mul (add (mul (ix ys k) kp) (ix zs k)) ln)) (R * K) = upto (fun k => sub (ix xs k) (ix less k)) (R * K) :=
      upto_congr fun k hk => by rw [hless, upto_ix hk, hspeed, upto_ix hk, hkept, upto_ix hk]
    exact congrArg _ this)
  have HS2 : Hid (stepSpeed ⟨R, K, xs⟩ ⟨R, K, ys⟩ ⟨R, K, zs⟩ kp = ⟨R, K, speed⟩) := Lib.hid (by
    unfold stepSpeed
    rw [show (Mat.mk (R : Int) K xs).cells.length = R * K from x0.len]
    have : upto (fun k => add (mul (ix ys k) kp) (ix zs k)) (R * K) = speed := by rw [hspeed]; exact upto_congr fun k hk => by rw [hkept, upto_ix hk]
    exact congrArg _ this)
  have lk : kept.length = R * K := by rw [hkept]; exact upto_length _ _
  have ls : speed.length = R * K := by rw [hspeed]; exact upto_length _ _
  have ly : ys.length = R * K := x1.len
  have lz : zs.length = R * K := x2.len
  have HLK := Lib.hid lk
  have HLS := Lib.hid ls
  have HLY := Lib.hid ly
  have HLZ := Lib.hid lz
  clear hkept hspeed hless lk ls ly lz
  go_enter Tryd.func37, Tryd.ntmps37
  go_wp2_with fail
  refine (refMatTimes_any R K hR hK ys kp _ _ (MatAt.mk (x1.alloc _ |>.alloc _ |>.alloc _ |>.alloc _ |>.alloc _ |>.alloc _)) HLY.out).mono ?_
  rw [HK1.out]
  rintro e w1 ⟨v1, rfl, ⟨a3, n3, k3, b3, o3, rfl, hn3, x3⟩, hb1⟩
  have B0 := ((show Box _ w.heap.size [.int .i64 R, .int .i64 K, .slice a0 (R * K : Nat) k0] 25 from (by repeat (first | fail | (with_reducible refine (Box.new' _ w.heap.size _ _ ?_); (simp; done)) | (with_reducible refine Box.alloc ?_ _) | (with_reducible refine Box.drewN ?_ _) | (with_reducible refine Box.drew ?_) | (with_reducible refine Box.far ?_ ?_ _; rotate_left 1; (first | (dsimp only; omega) | omega | (simp; omega) | simp)))))).keep hb1
  have B0c := B0.cell
  have B0f := B0.thawed
  have B0z := B0.lt
  have B0k := lt_add B0z
  have B2 := ((show Box _ (w.heap.size + 1 + 1) [.int .i64 R, .int .i64 K, .slice a2 (R * K : Nat) k2] 25 from (by repeat (first | fail | (with_reducible refine (Box.new' _ (w.heap.size + 1 + 1) _ _ ?_); (simp; done)) | (with_reducible refine Box.alloc ?_ _) | (with_reducible refine Box.drewN ?_ _) | (with_reducible refine Box.drew ?_) | (with_reducible refine Box.far ?_ ?_ _; rotate_left 1; (first | (dsimp only; omega) | omega | (simp; omega) | simp)))))).keep hb1
  have B2c := B2.cell
  have B2f := B2.thawed
  have B2z := B2.lt
  have B2k := lt_add B2z
  have B3 := ((show Box _ (w.heap.size + 1 + 1 + 1) [.int .i64 ln, .int .i64 kp] 57 from (by repeat (first | fail | (with_reducible refine (Box.new' _ (w.heap.size + 1 + 1 + 1) _ _ ?_); (simp; done)) | (with_reducible refine Box.alloc ?_ _) | (with_reducible refine Box.drewN ?_ _) | (with_reducible refine Box.drew ?_) | (with_reducible refine Box.far ?_ ?_ _; rotate_left 1; (first | (dsimp only; omega) | omega | (simp; omega) | simp)))))).keep hb1
  have B3c := B3.cell
  have B3f := B3.thawed
  have B3z := B3.lt
  have B3k := lt_add B3z
  have B4 := ((show Box _ (w.heap.size + 1 + 1 + 1 + 1) [.int .i64 0, .int .i64 0, .slice none 0 0] 25 from (by repeat (first | fail | (with_reducible refine (Box.new' _ (w.heap.size + 1 + 1 + 1 + 1) _ _ ?_); (simp; done)) | (with_reducible refine Box.alloc ?_ _) | (with_reducible refine Box.drewN ?_ _) | (with_reducible refine Box.drew ?_) | (with_reducible refine Box.far ?_ ?_ _; rotate_left 1; (first | (dsimp only; omega) | omega | (simp; omega) | simp)))))).keep hb1
  have B4c := B4.cell
  have B4f := B4.thawed
  have B4z := B4.lt
  have B4k := lt_add B4z
  have B5 := ((show Box _ (w.heap.size + 1 + 1 + 1 + 1 + 1) [.int .i64 0, .int .i64 0, .slice none 0 0] 25 from (by repeat (first | fail | (with_reducible refine (Box.new' _ (w.heap.size + 1 + 1 + 1 + 1 + 1) _ _ ?_); (simp; done)) | (with_reducible refine Box.alloc ?_ _) | (with_reducible refine Box.drewN ?_ _) | (with_reducible refine Box.drew ?_) | (with_reducible refine Box.far ?_ ?_ _; rotate_left 1; (first | (dsimp only; omega) | omega | (simp; omega) | simp)))))).keep hb1
  have B5c := B5.cell
  have B5f := B5.thawed
  have B5z := B5.lt
  have B5k := lt_add B5z
  have hkw1 : Below w.heap.size w w1 := (by repeat (first | fail | (with_reducible exact Below.refl _ _) | (with_reducible refine Below.al ?_ _) | (with_reducible refine Below.drN ?_ _) | (with_reducible refine Below.drew ?_) | (with_reducible refine Below.st ?_ ?_ _; rotate_left 1; (first | (dsimp only; omega) | omega | (simp; omega) | simp)) | (with_reducible refine Below.go ?_ hb1) | exact Below.refl _ _))
  replace x0 := x0.keep hkw1
  replace x2 := x2.keep hkw1
  have hsw1 := hkw1.size
  have hz1 : w.heap.size + 1 + 1 + 1 + 1 + 1 < w1.heap.size := B5z
  obtain rfl : R * K = n3 := by rw [← HLK.out]; exact x3.len
  go_wp2_with fail
  refine (refMatAdd_any R K hR hK kept zs _ _ _ (MatAt.mk (x3.alloc _)) (MatAt.mk (x2.alloc _)) HLK.out HLZ.out).mono ?_
  rw [HK2.out]
  rintro e w2 ⟨v2, rfl, ⟨a4, n4, k4, b4, o4, rfl, hn4, x4⟩, hb2⟩
  have hkw2 : Below w1.heap.size w1 w2 := (by repeat (first | fail | (with_reducible exact Below.refl _ _) | (with_reducible refine Below.al ?_ _) | (with_reducible refine Below.drN ?_ _) | (with_reducible refine Below.drew ?_) | (with_reducible refine Below.st ?_ ?_ _; rotate_left 1; (first | (dsimp only; omega) | omega | (simp; omega) | simp)) | (with_reducible refine Below.go ?_ hb2) | exact Below.refl _ _))
  replace B0 := B0.keep hkw2
  replace B0c := B0.cell
  replace B0f := B0.thawed
  replace B0z := B0.lt
  replace B0k := lt_add B0z
  replace B3 := B3.keep hkw2
  replace B3c := B3.cell
  replace B3f := B3.thawed
  replace B3z := B3.lt
  replace B3k := lt_add B3z
  replace B4 := B4.keep hkw2
  replace B4c := B4.cell
  replace B4f := B4.thawed
  replace B4z := B4.lt
  replace B4k := lt_add B4z
  replace B5 := B5.keep hkw2
  replace B5c := B5.cell
  replace B5f := B5.thawed
  replace B5z := B5.lt
  replace B5k := lt_add B5z
  replace x0 := x0.keep hkw2
  have hsw2 := hkw2.size
  have hn4' : 0 < n4 → w1.heap.size < b4 := fun h => by have := hn4 h; simp at this; omega
  have hz2 : w1.heap.size < w2.heap.size := by have := hb2.size; simp at this; omega
  have l4 := x4.lt
  obtain rfl : R * K = n4 := by rw [← HLS.out]; exact x4.len
  go_wp2_with fail
  refine (refMatTimes_any R K hR hK speed ln _ _ (MatAt.mk (x4.alloc _)) HLS.out).mono ?_
  rw [HK3.out]
  rintro e w3 ⟨v3, rfl, ⟨a5, n5, k5, b5, o5, rfl, hn5, x5⟩, hb3⟩
  have Q1 := (Box.new w2 [.int .i64 R, .int .i64 K, .slice a4 (R * K : Nat) k4] 25).keep hb3
  have Q1c := Q1.cell
  have Q1f := Q1.thawed
  have Q1z := Q1.lt
  have Q1k := lt_add Q1z
  have hkw3 : Below w2.heap.size w2 w3 := (by repeat (first | fail | (with_reducible exact Below.refl _ _) | (with_reducible refine Below.al ?_ _) | (with_reducible refine Below.drN ?_ _) | (with_reducible refine Below.drew ?_) | (with_reducible refine Below.st ?_ ?_ _; rotate_left 1; (first | (dsimp only; omega) | omega | (simp; omega) | simp)) | (with_reducible refine Below.go ?_ hb3) | exact Below.refl _ _))
  replace B0 := B0.keep hkw3
  replace B0c := B0.cell
  replace B0f := B0.thawed
  replace B0z := B0.lt
  replace B0k := lt_add B0z
  replace B3 := B3.keep hkw3
  replace B3c := B3.cell
  replace B3f := B3.thawed
  replace B3z := B3.lt
  replace B3k := lt_add B3z
  replace B4 := B4.keep hkw3
  replace B4c := B4.cell
  replace B4f := B4.thawed
  replace B4z := B4.lt
  replace B4k := lt_add B4z
  replace B5 := B5.keep hkw3
  replace B5c := B5.cell
  replace B5f := B5.thawed
  replace B5z := B5.lt
  replace B5k := lt_add B5z
  replace x0 := x0.keep hkw3
  replace x4 := x4.keep hkw3
  have hsw3 := hkw3.size
  have hz3 : w2.heap.size < w3.heap.size := by have := hb3.size; simp at this; omega
  have hn5' : 0 < n5 → w2.heap.size < b5 := fun h => by have := hn5 h; simp at this; omega
  have l5 := x5.lt
  obtain rfl : R * K = n5 := by
    have e : less.length = R * K := by rw [← HK3.out]; exact upto_length _ _
    rw [← e]; exact x5.len
  go_wp2_with fail
  refine (blank_any R K (by omega) (by omega) _).mono ?_
  rintro e w4 ⟨b, rfl, hbb, hB, hb4⟩
  have Q2 := (Box.new w3 [.int .i64 R, .int .i64 K, .slice a5 (R * K : Nat) k5] 25).keep hb4
  have Q2c := Q2.cell
  have Q2f := Q2.thawed
  have Q2z := Q2.lt
  have Q2k := lt_add Q2z
  have hkw4 : Below w3.heap.size w3 w4 := (by repeat (first | fail | (with_reducible exact Below.refl _ _) | (with_reducible refine Below.al ?_ _) | (with_reducible refine Below.drN ?_ _) | (with_reducible refine Below.drew ?_) | (with_reducible refine Below.st ?_ ?_ _; rotate_left 1; (first | (dsimp only; omega) | omega | (simp; omega) | simp)) | (with_reducible refine Below.go ?_ hb4) | exact Below.refl _ _))
  replace B0 := B0.keep hkw4
  replace B0c := B0.cell
  replace B0f := B0.thawed
  replace B0z := B0.lt
  replace B0k := lt_add B0z
  replace B4 := B4.keep hkw4
  replace B4c := B4.cell
  replace B4f := B4.thawed
  replace B4z := B4.lt
  replace B4k := lt_add B4z
  replace B5 := B5.keep hkw4
  replace B5c := B5.cell
  replace B5f := B5.thawed
  replace B5z := B5.lt
  replace B5k := lt_add B5z
  replace Q1 := Q1.keep hkw4
  replace Q1c := Q1.cell
  replace Q1f := Q1.thawed
  replace Q1z := Q1.lt
  replace Q1k := lt_add Q1z
  replace x0 := x0.keep hkw4
  replace x4 := x4.keep hkw4
  replace x5 := x5.keep hkw4
  have hsw4 := hkw4.size
  have hz4 : w3.heap.size < w4.heap.size := by have := hb4.size; simp at this; omega
  have hbb' : w3.heap.size < b := by simp at hbb; omega
  have hbl : b < w4.heap.size := hB.lt
  have hw4 : Below w.heap.size w w4 := (by repeat (first | fail | (with_reducible exact Below.refl _ _) | (with_reducible refine Below.al ?_ _) | (with_reducible refine Below.drN ?_ _) | (with_reducible refine Below.drew ?_) | (with_reducible refine Below.st ?_ ?_ _; rotate_left 1; (first | (dsimp only; omega) | omega | (simp; omega) | simp)) | (with_reducible refine Below.go ?_ hb4) | (with_reducible refine Below.go ?_ hb3) | (with_reducible refine Below.go ?_ hb2) | (with_reducible refine Below.go ?_ hb1) | exact Below.refl _ _))
  go_wp2_with fail
  go_loopw [14] (fun i wr => ∃ k : Nat, k ≤ R * K ∧ i = .int .i64 k ∧ Far (· = b) w4 wr ∧ Box wr w4.heap.size [.int .i64 R, .int .i64 K, .slice (some ⟨b, 0, none⟩) (R * K) (R * K)] 25 ∧
    Box wr b ((pad (fun k => sub (ix xs k) (ix less k)) (R * K) k).map (Value.int .i64)) 3) (fun i _ => R * K - (intOf i).toNat)
  case atStart => exact ⟨0, Nat.zero_le _, rfl, (Far.refl _ _).al _, Box.new _ _ _, by rw [pad_zero]; exact hB.alloc _⟩
  case round =>
    obtain ⟨k, hk, rfl, hfr, Bm, Bc⟩ := hrel
    have Bmc := Bm.cell
    have Bmf := Bm.thawed
    have Bmz := Bm.lt
    replace B0 := B0.farS hfr (by omega)
    have B0c := B0.cell
    have B0f := B0.thawed
    have B0z := B0.lt
    have B0k := lt_add B0z
    replace B4 := B4.farS hfr (by omega)
    have B4c := B4.cell
    have B4f := B4.thawed
    have B4z := B4.lt
    have B4k := lt_add B4z
    replace B5 := B5.farS hfr (by omega)
    have B5c := B5.cell
    have B5f := B5.thawed
    have B5z := B5.lt
    have B5k := lt_add B5z
    replace Q1 := Q1.farS hfr (by omega)
    have Q1c := Q1.cell
    have Q1f := Q1.thawed
    have Q1z := Q1.lt
    have Q1k := lt_add Q1z
    replace Q2 := Q2.farS hfr (by omega)
    have Q2c := Q2.cell
    have Q2f := Q2.thawed
    have Q2z := Q2.lt
    have Q2k := lt_add Q2z
    replace x0 := x0.farS hfr (by intro hn e; have := l0 hn; omega)
    replace x5 := x5.farS hfr (by intro hn e; have := hn5' hn; have := l5 hn; omega)
    replace x4 := x4.farS hfr (by intro hn e; have := hn4' hn; have := l4 hn; omega)
    by_cases hlt : k < R * K
    · obtain rfl := x0.ptr (by omega)
      obtain rfl := x5.ptr (by omega)
      have c0 := x0.cell k hlt
      have c1 := x5.cell k hlt
      have cc := Bc.icell (k := k) (by rw [pad_length]; exact hlt)
      rw [pad_ix hlt, if_neg (Nat.lt_irrefl _)] at cc
      have hltI : (k : Int) < (R : Int) * K := by rw [← Int.natCast_mul]; omega
      have cf := Bc.thawed k
      go_wp2_with fail
      refine wp_region_still_tail 14 (by kernel_rfl) (by kernel_rfl) ?_
      simp only [List.take_succ_cons, List.take_zero, List.drop_succ_cons, List.drop_zero]
      repeat (first | still_call (still0 (rsub_any _ _ _)) | still_step)
      refine wpStill_nil ?_
      go_wp2
      go_roundw
      case rel =>
        refine ⟨k + 1, by omega, by go_num, (hfr.drew).st (fun _ => rfl) _, Bm.far (a := ⟨b, k, none⟩) (by dsimp only; omega) _, ?_⟩
        have hs := Bc.iset k (sub (ix xs k) (ix less k))
        rw [pad_set (g := fun k => sub (ix xs k) (ix less k)) hlt] at hs
        exact hs
      case measure => simp [intOf]; omega
    · obtain rfl : k = R * K := by omega
      have hbe : Below w.heap.size w wr := Far.toBelow hw4 hfr (by have := hw4.size; omega) (fun b hb => by subst hb; omega)
      have I1 := ints_pad' Bc (by unfold maxLen; omega)
      have hl1 : 0 < R * K → w.heap.size + 1 + 1 + 1 + 1 + 1 < b := fun _ => by omega
      have hl2 : 0 < R * K → w.heap.size + 1 + 1 + 1 + 1 + 1 < b4 := fun h => by have := hn4' h; omega
      clear x0 x5
      go_wp2_with fail
      go_region
      all_goals (
        go_wp2_with fail
        refine bodyPost_ret (v := .tuple #[.agg #[.int .i64 R, .int .i64 K, .slice (some ⟨b, 0, none⟩) (R * K) (R * K)], .agg #[.int .i64 R, .int .i64 K, .slice a4 (R * K : Nat) k4]]) (by simp [results, Tryd.results37, go_sem, B4c, B5c]) rfl ⟨_, _, rfl, ?_, ?_, ?_⟩
        · rw [HS1.out]
          exact MatNew.mk (b := b) (off := 0) (fun _ => by omega) (by repeat (first | fail | (with_reducible exact I1) | (with_reducible refine IntsAt.alloc ?_ _) | (with_reducible refine IntsAt.drewN ?_ _) | (with_reducible refine IntsAt.drew ?_) | (with_reducible refine IntsAt.set ?_ ?_ _; rotate_left 1; (intro h0; have hq0 := hl1 h0; first | (dsimp only; omega) | omega | (simp; omega) | simp)) | exact I1))
        · rw [HS2.out]
          exact MatNew.mk (b := b4) (off := o4) (fun h => by have := hl2 h; omega) (by repeat (first | fail | (with_reducible exact x4) | (with_reducible refine IntsAt.alloc ?_ _) | (with_reducible refine IntsAt.drewN ?_ _) | (with_reducible refine IntsAt.drew ?_) | (with_reducible refine IntsAt.set ?_ ?_ _; rotate_left 1; (intro h0; have hq0 := hl2 h0; first | (dsimp only; omega) | omega | (simp; omega) | simp)) | exact x4))
        · exact (by repeat (first | fail | (with_reducible exact Below.refl _ _) | (with_reducible exact hbe) | (with_reducible refine Below.al ?_ _) | (with_reducible refine Below.drN ?_ _) | (with_reducible refine Below.drew ?_) | (with_reducible refine Below.st ?_ ?_ _; rotate_left 1; (first | (dsimp only; omega) | omega | (simp; omega) | simp)) | exact Below.refl _ _ | exact hbe)))
end Go.Proofs.YtikcdjibflleeaaDoor
