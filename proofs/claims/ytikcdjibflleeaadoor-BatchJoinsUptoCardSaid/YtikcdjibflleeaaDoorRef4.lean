/- Contracts of the reference: MatMul, LossOf. -/
import Derived.Test.YtikcdjibflleeaaDoorRef3
import Derived.Test.YtikcdjibflleeaaDoorBaseP
set_option linter.unusedVariables false
set_option linter.unusedSimpArgs false
namespace Go.Proofs.YtikcdjibflleeaaDoor
open Go.RowKit Gal

set_option maxRecDepth 100000 in
set_option maxHeartbeats 2000000 in
theorem refMatMul_any (R K C : Nat) (hR : R ≤ 24) (hK : K ≤ 24) (hC : C ≤ 12) (xs ys : List Int) (va vb : Value) (w : World) (ha : MatAt w va ⟨R, K, xs⟩) (hb : MatAt w vb ⟨K, C, ys⟩) (hl0 : xs.length = R * K) (hl1 : ys.length = K * C) (hRK : R * K ≤ 288) (hKC : K * C ≤ 288) :
    Calls Tryd.prog 64 #[va, vb] w fun e w' => ∃ v, e = .returned v ∧ MatNew w.heap.size w' v (matMul ⟨R, K, xs⟩ ⟨K, C, ys⟩) ∧ Below w.heap.size w w' := by
  obtain ⟨a0, n0, k0, b0, o0, rfl, h0⟩ := ha
  obtain ⟨a1, n1, k1, b1, o1, rfl, h1⟩ := hb
  dsimp only at h0 h1
  obtain rfl : R * K = n0 := by rw [← hl0]; exact h0.len
  obtain rfl : K * C = n1 := by rw [← hl1]; exact h1.len
  have hRC : R * C ≤ 288 := Nat.mul_le_mul hR hC
  go_enter Tryd.func64, Tryd.ntmps64
  go_wp2_with fail
  refine (blank_any R C hR (by omega) _).mono ?_
  rintro e w1 ⟨b, rfl, hbb, hB, hb1⟩
  go_wp2
  have hw1 : Below w.heap.size w w1 := (by repeat (first | fail | (with_reducible exact Below.refl _ _) | (with_reducible refine Below.al ?_ _) | (with_reducible refine Below.drN ?_ _) | (with_reducible refine Below.drew ?_) | (with_reducible refine Below.st ?_ ?_ _; rotate_left 1; (first | (dsimp only; omega) | omega | (simp; omega) | simp)) | (with_reducible refine Below.go ?_ hb1) | exact Below.refl _ _))
  have hzb : b < w1.heap.size := hB.lt
  have hz1 := hb1.size
  simp at hz1 hbb
  have B0 := (((Box.new w [.int .i64 R, .int .i64 K, .slice a0 (R * K) k0] 25).alloc _).alloc _).keep hb1
  have B0c := B0.cell
  have B0f := B0.thawed
  have B0z := B0.lt
  have B0k := lt_add B0z
  have B1 := ((Box.new' _ (w.heap.size + 1) [.int .i64 K, .int .i64 C, .slice a1 (K * C) k1] 25 (by simp)).alloc _).keep hb1
  have B1c := B1.cell
  have B1f := B1.thawed
  have B1z := B1.lt
  have B1k := lt_add B1z
  have B2 := (Box.new' _ (w.heap.size + 1 + 1) [.int .i64 0, .int .i64 0, .slice none 0 0] 25 (by simp)).keep hb1
  have B2c := B2.cell
  have B2f := B2.thawed
  have B2z := B2.lt
  have B2k := lt_add B2z
  have l0 := h0.lt
  have l1 := h1.lt
  replace h0 := h0.keep hw1
  replace h1 := h1.keep hw1
  go_loopw [6] (fun i wr => ∃ k : Nat, k ≤ K ∧ i = .int .i64 k ∧ Far (· = b) w1 wr ∧ Box wr w1.heap.size [.int .i64 R, .int .i64 C, .slice (some ⟨b, 0, none⟩) (R * C) (R * C)] 25 ∧
      Box wr b ((upto (mulS xs ys K C k (0 * C + 0)) (R * C)).map (Value.int .i64)) 3) (fun i _ => K - (intOf i).toNat)
  case atStart => exact ⟨0, Nat.zero_le _, rfl, (Far.refl _ _).al _, Box.new _ _ _, by rw [show 0 * C + 0 = 0 by omega, mulS_zero]; exact hB.alloc _⟩
  case round =>
    obtain ⟨k, hk, rfl, hfr, Bm, Bc⟩ := hrel
    have Bmc := Bm.cell
    have Bmf := Bm.thawed
    have Bmz := Bm.lt
    have B0' := B0.farS hfr (by omega)
    have B0c' := B0'.cell
    by_cases hlt : k < K
    · go_wp2
      obtain ⟨wo, hwo⟩ : ∃ wo : World, wo = wr := ⟨_, rfl⟩
      clear Bmc Bmf Bmz B0' B0c'
      go_loopw [7] (fun i wr => ∃ r : Nat, r ≤ R ∧ i = .int .i64 r ∧ Far (· = b) w1 wr ∧ Box wr w1.heap.size [.int .i64 R, .int .i64 C, .slice (some ⟨b, 0, none⟩) (R * C) (R * C)] 25 ∧
          Box wr b ((upto (mulS xs ys K C k (r * C + 0)) (R * C)).map (Value.int .i64)) 3) (fun i _ => R - (intOf i).toNat)
      case atStart => exact ⟨0, Nat.zero_le _, rfl, hfr, Bm, Bc⟩
      case round =>
        obtain ⟨r, hr, rfl, hfr, Bm, Bc⟩ := hrel
        have Bmc := Bm.cell
        have Bmf := Bm.thawed
        have Bmz := Bm.lt
        have B0' := B0.farS hfr (by omega)
        have B0c' := B0'.cell
        by_cases hltr : r < R
        · go_wp2
          obtain ⟨wo2, hwo2⟩ : ∃ wo : World, wo = wr := ⟨_, rfl⟩
          clear Bmc Bmf Bmz B0' B0c'
          go_loopw [8, 9] (fun j _ wr => ∃ l : Nat, l ≤ C ∧ j = .int .i64 l ∧ Far (· = b) w1 wr ∧ Box wr w1.heap.size [.int .i64 R, .int .i64 C, .slice (some ⟨b, 0, none⟩) (R * C) (R * C)] 25 ∧
              Box wr b ((upto (mulS xs ys K C k (r * C + l)) (R * C)).map (Value.int .i64)) 3) (fun j _ _ => C - (intOf j).toNat)
          case atStart => exact ⟨0, Nat.zero_le _, rfl, hfr, Bm, Bc⟩
          case round =>
            obtain ⟨l, hl, rfl, hfr, Bm, Bc⟩ := hrel
            have Bmc := Bm.cell
            have Bmf := Bm.thawed
            have Bmz := Bm.lt
            replace B0 := B0.farS hfr (by omega)
            have B0c := B0.cell
            have B0f := B0.thawed
            have B0z := B0.lt
            have B0k := lt_add B0z
            replace B1 := B1.farS hfr (by omega)
            have B1c := B1.cell
            have B1f := B1.thawed
            have B1z := B1.lt
            have B1k := lt_add B1z
            replace B2 := B2.farS hfr (by omega)
            have B2c := B2.cell
            have B2f := B2.thawed
            have B2z := B2.lt
            have B2k := lt_add B2z
            replace h0 := h0.farS hfr (by intro hn e; have := l0 hn; omega)
            replace h1 := h1.farS hfr (by intro hn e; have := l1 hn; omega)
            by_cases hltl : l < C
            · have hrk := cell_lt hltr hlt
              have hkl := cell_lt hlt hltl
              have hrl := cell_lt hltr hltl
              obtain rfl := h0.ptr (by omega)
              obtain rfl := h1.ptr (by omega)
              have c0 := h0.cell _ hrk
              have c1 := h1.cell _ hkl
              have cc := Bc.icell (k := r * C + l) (by rw [upto_length]; exact hrl)
              rw [upto_ix hrl, mulS_at hltl] at cc
              have cf := Bc.thawed (r * C + l)
              have e1 : (r : Int) * K ≤ 288 := by rw [← Int.natCast_mul]; omega
              have e2 : (0 : Int) ≤ (r : Int) * K := by rw [← Int.natCast_mul]; omega
              have e3 : (k : Int) * C ≤ 288 := by rw [← Int.natCast_mul]; omega
              have e4 : (0 : Int) ≤ (k : Int) * C := by rw [← Int.natCast_mul]; omega
              have e5 : (r : Int) * C ≤ 288 := by rw [← Int.natCast_mul]; omega
              have e6 : (0 : Int) ≤ (r : Int) * C := by rw [← Int.natCast_mul]; omega
              have y1 : IntKind.i64.wrap ((r : Int) * K) = (r : Int) * K := IntWalk.i64_in _ (by omega)
              have y2 : IntKind.i64.wrap ((r : Int) * K + k) = (r : Int) * K + k := IntWalk.i64_in _ (by omega)
              have y3 : IntKind.i64.wrap ((k : Int) * C) = (k : Int) * C := IntWalk.i64_in _ (by omega)
              have y4 : IntKind.i64.wrap ((k : Int) * C + l) = (k : Int) * C + l := IntWalk.i64_in _ (by omega)
              have y5 : IntKind.i64.wrap ((r : Int) * C) = (r : Int) * C := IntWalk.i64_in _ (by omega)
              have y6 : IntKind.i64.wrap ((r : Int) * C + l) = (r : Int) * C + l := IntWalk.i64_in _ (by omega)
              have z1 : (r : Int) * K + k < (R : Int) * K := by rw [← Int.natCast_mul, ← Int.natCast_mul]; omega
              have z2 : 0 ≤ (r : Int) * K + k := by omega
              have z3 : ((r : Int) * K + k).toNat = r * K + k := by rw [← Int.natCast_mul]; omega
              have z4 : (k : Int) * C + l < (K : Int) * C := by rw [← Int.natCast_mul, ← Int.natCast_mul]; omega
              have z5 : 0 ≤ (k : Int) * C + l := by omega
              have z6 : ((k : Int) * C + l).toNat = k * C + l := by rw [← Int.natCast_mul]; omega
              have z7 : (r : Int) * C + l < (R : Int) * C := by rw [← Int.natCast_mul, ← Int.natCast_mul]; omega
              have z8 : 0 ≤ (r : Int) * C + l := by omega
              have z9 : ((r : Int) * C + l).toNat = r * C + l := by rw [← Int.natCast_mul]; omega
              go_wp2_with fail
              go_quiet ((go_at_call 66; first | exact quiet0 (rmul_any _ _) | exact quiet1 (rmul_any _ _)))
              have hfq := hfr.drN nq
              have Bmq := Bm.drewN nq
              have Bcq := Bc.drewN nq
              clear Bmc Bmf cc cf c0 c1 B0c B0f B1c B1f B2c B2f
              generalize wr.drewN nq = wq at hfq Bmq Bcq ⊢
              have Bmc := Bmq.cell
              have cc := Bcq.icell (k := r * C + l) (by rw [upto_length]; exact hrl)
              rw [upto_ix hrl, mulS_at hltl] at cc
              have cf := Bcq.thawed (r * C + l)
              go_wp2_with fail
              refine wp_region_still_tail 20 (by kernel_rfl) (by kernel_rfl) ?_
              simp only [List.take_succ_cons, List.take_zero, List.drop_succ_cons, List.drop_zero]
              repeat (first | still_call (still0 (radd_any _ _ _)) | still_step)
              refine wpStill_nil ?_
              go_wp2
              go_roundw
              case rel =>
                refine ⟨l + 1, by omega, by go_num, (hfq.drew).st (fun _ => rfl) _, Bmq.far (a := ⟨b, r * C + l, none⟩) (by dsimp only; omega) _, ?_⟩
                have hs := Bcq.iset (r * C + l) (add (sumTo (fun t => mul (ix xs (r * K + t)) (ix ys (t * C + l))) k) (mul (ix xs (r * K + k)) (ix ys (k * C + l))))
                rw [mulS_cell hltr hltl] at hs
                exact hs
              case measure => simp [intOf]; omega
            · obtain rfl : l = C := by omega
              go_wp2
              go_roundw
              case rel => exact ⟨r + 1, by omega, by go_num, hfr, Bm, by rw [← mulS_row]; exact Bc⟩
              case measure => simp [intOf]; omega
        · obtain rfl : r = R := by omega
          go_wp2
          go_roundw
          case rel => exact ⟨k + 1, by omega, by go_num, hfr, Bm, by rw [← mulS_next]; exact Bc⟩
          case measure => simp [intOf]; omega
    · obtain rfl : k = K := by omega
      replace B2 := B2.farS hfr (by omega)
      have B2c := B2.cell
      have B2f := B2.thawed
      have B2z := B2.lt
      have B2k := lt_add B2z
      have hbl := Far.toBelow hw1 hfr (by omega) (by rintro k rfl; omega)
      go_wp2
      refine bodyPost_ret (v := .agg #[.int .i64 R, .int .i64 C, .slice (some ⟨b, 0, none⟩) (R * C) (R * C)]) (by simp [results, Tryd.results64, go_sem, B2c]) rfl ⟨_, rfl, ?_, (by repeat (first | fail | (with_reducible exact Below.refl _ _) | (with_reducible exact hbl) | (with_reducible refine Below.al ?_ _) | (with_reducible refine Below.drN ?_ _) | (with_reducible refine Below.drew ?_) | (with_reducible refine Below.st ?_ ?_ _; rotate_left 1; (first | (dsimp only; omega) | omega | (simp; omega) | simp)) | exact Below.refl _ _ | exact hbl))⟩
      rw [← mulS_all]
      exact MatNew.mk (fun _ => by omega) ((ints_upto Bc (by unfold maxLen; omega)).set3 (fun _ => by omega) _ _ _)
end Go.Proofs.YtikcdjibflleeaaDoor
