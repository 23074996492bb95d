/- Contracts of package mat: Mul, Turn. -/
import Derived.Test.YtikcdjibflleeaaDoorMat2
import Derived.Test.YtikcdjibflleeaaDoorMat3
import Derived.Test.YtikcdjibflleeaaDoorMat4
import Derived.Test.YtikcdjibflleeaaDoorBaseR
set_option linter.unusedVariables false
set_option linter.unusedSimpArgs false
namespace Go.Proofs.YtikcdjibflleeaaDoor
open Go.RowKit Gal

theorem cf_mul (vs : Array Value) (W : World) : (callFunc 105 vs).run Tryd.prog W = .ok (.enter 105 vs) W := by kernel_rfl

set_option maxRecDepth 100000 in
set_option maxHeartbeats 1000000 in
theorem matMul_bad (ma mb : Mat) (va vb : Value) (w : World) (ha : MatAt w va ma) (hb : MatAt w vb mb) (hf : mulFault ma mb ≠ 0) :
    Calls Tryd.prog 102 #[va, vb] w fun e w' => e = .returned (.tuple #[.agg #[.int .i64 0, .int .i64 0, .slice none 0 0], errV (mulFault ma mb)]) ∧ Below w.heap.size w w' := by
  obtain ⟨a0, n0, k0, b0, o0, rfl, h0⟩ := ha
  obtain ⟨a1, n1, k1, b1, o1, rfl, h1⟩ := hb
  by_cases hc : firstFault [ma, mb] = 0
  · have hE : errV (firstFault [ma, mb]) = .nilIface := errV_nil hc
    have hcr : (ma.cols != mb.rows) = true := by
      unfold mulFault at hf
      rw [if_pos hc] at hf
      by_cases h : ma.cols = mb.rows
      · rw [if_pos h] at hf; omega
      · simp [h]
    have hm : mulFault ma mb = 2 := by
      unfold mulFault at *
      rw [if_pos hc] at *
      by_cases h : ma.cols = mb.rows
      · rw [if_pos h] at hf; omega
      · rw [if_neg h]
    rw [hm, errV_err (by omega)]
    clear hm hc hf
    go_enter Tryd.func102, Tryd.ntmps102
    go_wp2_with fail
    refine (check_any _ _ _ _ _ [ma, mb] _ (mats2 (Box.new' _ _ _ _ (by simp)) (h0.alloc _ |>.alloc _ |>.alloc _ |>.alloc _) (h1.alloc _ |>.alloc _ |>.alloc _ |>.alloc _))).mono ?_
    rintro e w1 ⟨rfl, hb1⟩
    have B2 := (((Box.new' _ w.heap.size _ _ (by simp)).alloc _).alloc _ |>.alloc _).keep hb1
    have B2c := B2.cell
    have B2f := B2.thawed
    have B2z := B2.lt
    have B2k := lt_add B2z
    have B3 := ((Box.new' _ (w.heap.size + 1) _ _ (by simp)).alloc _ |>.alloc _).keep hb1
    have B3c := B3.cell
    have B3f := B3.thawed
    have B3z := B3.lt
    have B3k := lt_add B3z
    have B4 := ((Box.new' _ (w.heap.size + 1 + 1) _ _ (by simp)).alloc _).keep hb1
    have B4c := B4.cell
    have B4f := B4.thawed
    have B4z := B4.lt
    have B4k := lt_add B4z
    go_wp2
    exact bodyPost_ret (v := .tuple #[.agg #[.int .i64 0, .int .i64 0, .slice none 0 0], .iface 30 (.int .i64 2)]) (by simp [results, Tryd.results102, go_sem, B4c]) rfl ⟨rfl, (by repeat (first | fail | (with_reducible exact Below.refl _ _) | (with_reducible refine Below.al ?_ _) | (with_reducible refine Below.drN ?_ _) | (with_reducible refine Below.drew ?_) | (with_reducible refine Below.st ?_ ?_ _; rotate_left 1; (first | (dsimp only; omega) | omega | (simp; omega) | simp)) | (with_reducible refine Below.go ?_ hb1) | exact Below.refl _ _))⟩
  · have hE : errV (firstFault [ma, mb]) = .iface 30 (.int .i64 (firstFault [ma, mb])) := errV_err hc
    have hm : mulFault ma mb = firstFault [ma, mb] := by unfold mulFault; rw [if_neg hc]
    rw [hm, hE]
    clear hm hc hf
    go_enter Tryd.func102, Tryd.ntmps102
    go_wp2_with fail
    refine (check_any _ _ _ _ _ [ma, mb] _ (mats2 (Box.new' _ _ _ _ (by simp)) (h0.alloc _ |>.alloc _ |>.alloc _ |>.alloc _) (h1.alloc _ |>.alloc _ |>.alloc _ |>.alloc _))).mono ?_
    rintro e w1 ⟨rfl, hb1⟩
    have B4 := ((Box.new' _ (w.heap.size + 1 + 1) _ _ (by simp)).alloc _).keep hb1
    have B4c := B4.cell
    have B4f := B4.thawed
    have B4z := B4.lt
    have B4k := lt_add B4z
    go_wp2
    exact bodyPost_ret (v := .tuple #[.agg #[.int .i64 0, .int .i64 0, .slice none 0 0], .iface 30 (.int .i64 (firstFault [ma, mb]))]) (by simp [results, Tryd.results102, go_sem, B4c]) rfl ⟨rfl, (by repeat (first | fail | (with_reducible exact Below.refl _ _) | (with_reducible refine Below.al ?_ _) | (with_reducible refine Below.drN ?_ _) | (with_reducible refine Below.drew ?_) | (with_reducible refine Below.st ?_ ?_ _; rotate_left 1; (first | (dsimp only; omega) | omega | (simp; omega) | simp)) | (with_reducible refine Below.go ?_ hb1) | exact Below.refl _ _))⟩

set_option maxRecDepth 100000 in
set_option maxHeartbeats 1000000 in
theorem matMul_new (ma mb : Mat) (va vb : Value) (w : World) (ha : MatAt w va ma) (hb : MatAt w vb mb) (hf : mulFault ma mb = 0) :
    Calls Tryd.prog 102 #[va, vb] w fun e w' => ∃ v, e = .returned (.tuple #[v, .nilIface]) ∧ MatNew w.heap.size w' v (matMul ma mb) ∧ Below w.heap.size w w' := by
  obtain ⟨hc, hcr⟩ := mulFault_ok hf
  obtain ⟨fa, fb⟩ := firstFault_two.1 hc
  obtain ⟨R, K, eR, eK, hR, hK, hla, hea⟩ := matFault_ok fa
  obtain ⟨K', C, eK', eC, hK', hC, hlb, heb⟩ := matFault_ok fb
  obtain ⟨mar, mac, xs⟩ := ma
  obtain ⟨mbr, mbc, ys⟩ := mb
  dsimp only at eR eK eK' eC hcr hla hlb
  subst eR eK eK' eC
  obtain rfl : K = K' := by omega
  clear hcr hea heb
  obtain ⟨a0, n0, k0, b0, o0, rfl, h0⟩ := ha
  obtain ⟨a1, n1, k1, b1, o1, rfl, h1⟩ := hb
  obtain rfl : R * K = n0 := by rw [← hla]; exact h0.len
  obtain rfl : K * C = n1 := by rw [← hlb]; exact h1.len
  dsimp only at h0 h1
  have hE : errV (firstFault [⟨R, K, xs⟩, ⟨K, C, ys⟩]) = .nilIface := errV_nil hc
  clear hf hc fa fb hla hlb
  go_enter Tryd.func102, Tryd.ntmps102
  go_wp2_with fail
  refine (check_any _ _ _ _ _ [⟨R, K, xs⟩, ⟨K, C, ys⟩] _ (mats2 (Box.new' _ _ _ _ (by simp)) (h0.alloc _ |>.alloc _ |>.alloc _ |>.alloc _) (h1.alloc _ |>.alloc _ |>.alloc _ |>.alloc _))).mono ?_
  rintro e w1 ⟨rfl, hb1⟩
  have B2 := (((Box.new' _ w.heap.size _ _ (by simp)).alloc _).alloc _ |>.alloc _).keep hb1
  have B2c := B2.cell
  have B2f := B2.thawed
  have B2z := B2.lt
  have B2k := lt_add B2z
  have B3 := ((Box.new' _ (w.heap.size + 1) _ _ (by simp)).alloc _ |>.alloc _).keep hb1
  have B3c := B3.cell
  have B3f := B3.thawed
  have B3z := B3.lt
  have B3k := lt_add B3z
  have B4 := ((Box.new' _ (w.heap.size + 1 + 1) _ _ (by simp)).alloc _).keep hb1
  have B4c := B4.cell
  have B4f := B4.thawed
  have B4z := B4.lt
  have B4k := lt_add B4z
  have z1 := hb1.size
  simp at z1
  go_wp2_with fail
  have x0 := (h0.alloc _ |>.alloc _ |>.alloc _ |>.alloc _).keep hb1
  have x1 := (h1.alloc _ |>.alloc _ |>.alloc _ |>.alloc _).keep hb1
  refine (filled_any R C hR (by omega) 105 #[.pointer (some ⟨w.heap.size, 0, none⟩), .pointer (some ⟨w.heap.size + 1, 0, none⟩)] (mulCell xs ys K C) _ cf_mul ?_).mono ?_
  · intro i j hi hj W hW
    exact mulCell_any _ _ R K C _ _ _ _ _ _ _ _ xs ys hR hK hC W (B2.keep hW) (B3.keep hW) (x0.keep hW) (x1.keep hW) i j hi hj
  · rintro e w2 ⟨a2, k2, b2, rfl, hn2, hi2, hb2⟩
    have C4 := B4.keep hb2
    have C4c := C4.cell
    have C4f := C4.thawed
    have C4z := C4.lt
    have C4k := lt_add C4z
    go_wp2
    refine bodyPost_ret (v := .tuple #[.agg #[.int .i64 R, .int .i64 C, .slice a2 (R * C) k2], .nilIface]) (by simp [results, Tryd.results102, go_sem, C4c]) rfl ⟨_, rfl, MatNew.mk (fun h => by have := hn2 h; omega) (hi2.set3 (fun h => by have := hn2 h; omega) _ _ _), (by repeat (first | fail | (with_reducible exact Below.refl _ _) | (with_reducible refine Below.al ?_ _) | (with_reducible refine Below.drN ?_ _) | (with_reducible refine Below.drew ?_) | (with_reducible refine Below.st ?_ ?_ _; rotate_left 1; (first | (dsimp only; omega) | omega | (simp; omega) | simp)) | (with_reducible refine Below.go ?_ hb2) | (with_reducible refine Below.go ?_ hb1) | exact Below.refl _ _))⟩
theorem matMul_ok (ma mb : Mat) (va vb : Value) (w : World) (ha : MatAt w va ma) (hb : MatAt w vb mb) (hf : mulFault ma mb = 0) :
    Calls Tryd.prog 102 #[va, vb] w fun e w' => ∃ v, e = .returned (.tuple #[v, .nilIface]) ∧ MatAt w' v (matMul ma mb) ∧ Below w.heap.size w w' :=
  (matMul_new ma mb va vb w ha hb hf).mono fun _ _ ⟨v, h1, h2, h3⟩ => ⟨v, h1, h2.at, h3⟩
end Go.Proofs.YtikcdjibflleeaaDoor
