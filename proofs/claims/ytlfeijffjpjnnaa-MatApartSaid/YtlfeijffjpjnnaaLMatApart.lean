/- MatApart: of any two matrices whose product there is, what is multiplied row by row and stacked is what is multiplied whole; rows taken apart and stacked are the same: the law returns true, and the input reads as it did. No condition. -/
import Derived.Test.YtlfeijffjpjnnaaRows
import Derived.Test.YtlfeijffjpjnnaaBlank
import Derived.Test.YtlfeijffjpjnnaaMat6
import Derived.Test.YtlfeijffjpjnnaaMat7
import Derived.Test.YtlfeijffjpjnnaaOpen
import Derived.Test.YtlfeijffjpjnnaaPApart
set_option linter.unusedVariables false
set_option linter.unusedSimpArgs false
namespace Go.Proofs.Ytlfeijffjpjnnaa.lawMatApart
open Go.ChangeShapes Go.WideShapes Go.ChangeAt Go.RowKit Gal

theorem pick_is {c : Int} {R : Nat} : ∃ k : Nat, pickOf c ((R : Int) + 1) = k ∧ k ≤ R := by
  unfold pickOf
  have h1 := Int.emod_nonneg (if c < 0 then -(c + 1) else c) (b := (R : Int) + 1) (by omega)
  have h2 := Int.emod_lt_of_pos (if c < 0 then -(c + 1) else c) (b := (R : Int) + 1) (by omega)
  obtain ⟨k, hk⟩ := Int.eq_ofNat_of_zero_le h1
  exact ⟨k, hk, by omega⟩

set_option maxRecDepth 100000 in
set_option maxHeartbeats 2000000 in
theorem walk (ma : Mat) (va : Value) (mb : Mat) (vb : Value) (c : Int) (w : World) (ha : MatAt w va ma) (hb : MatAt w vb mb) (hcw : (Lit.int .i64 c).wf = true) : Calls Try.prog 8 #[va, vb, .int .i64 c] w fun e w' => e = .returned (.bool true) ∧ Below w.heap.size w w' := by
  by_cases hf : mulFault ma mb = 0
  · obtain ⟨hc, hcr⟩ := mulFault_ok hf
    obtain ⟨fa, fb⟩ := firstFault_two.1 hc
    obtain ⟨R, K, eR, eK, hR, hK, hla, hea⟩ := matFault_ok fa
    obtain ⟨K', C, eK', eC, hK', hC, hlb, heb⟩ := matFault_ok fb
    obtain ⟨mar, mac, xs⟩ := ma
    obtain ⟨mbr, mbc, ys⟩ := mb
    dsimp only at eR eK eK' eC hcr hla hlb
    subst eR eK eK' eC
    obtain rfl : K = K' := by omega
    obtain ⟨k, hpk, hkR⟩ := pick_is (c := c) (R := R)
    have f1 := rowsFault_top hkR hla fa
    have f2 := rowsFault_bot hkR hla fa
    have r1 := rows_top hkR hla
    have r2 := rows_bot hkR hla
    have g1 := top_fault hkR hla hR hK hea
    have g2 := bot_fault hkR hla hR hK hea
    have f3 : stackFault [topOf R K xs k, botOf R K xs k] = 0 := stack_two hkR hla g1 g2 rfl (by show (k : Int) + (R - k : Nat) ≤ 24; omega)
    have f3' : firstFault [topOf R K xs k, botOf R K xs k] = 0 := firstFault_two.2 ⟨g1, g2⟩
    have r3 := stack_back hkR hla
    have f4 : mulFault (topOf R K xs k) ⟨K, C, ys⟩ = 0 := mulFault_zero g1 fb rfl
    have f5 : mulFault (botOf R K xs k) ⟨K, C, ys⟩ = 0 := mulFault_zero g2 fb rfl
    have p1 : (matMul (topOf R K xs k) ⟨K, C, ys⟩).fault = 0 := matMul_fault (by omega) hC
    have p2 : (matMul (botOf R K xs k) ⟨K, C, ys⟩).fault = 0 := matMul_fault (by omega) hC
    have f6 : stackFault [matMul (topOf R K xs k) ⟨K, C, ys⟩, matMul (botOf R K xs k) ⟨K, C, ys⟩] = 0 := stack_two hkR hla p1 p2 rfl (by show (k : Int) + (R - k : Nat) ≤ 24; omega)
    have f6' : firstFault [matMul (topOf R K xs k) ⟨K, C, ys⟩, matMul (botOf R K xs k) ⟨K, C, ys⟩] = 0 := firstFault_two.2 ⟨p1, p2⟩
    have r6 := mul_parts (C := C) (ys := ys) hkR hla
    have HF := Lib.hid hf
    have HPK := Lib.hid hpk
    have F1 := Lib.hid f1
    have F2 := Lib.hid f2
    have F3 := Lib.hid f3
    have F3' := Lib.hid f3'
    have F4 := Lib.hid f4
    have F5 := Lib.hid f5
    have F6 := Lib.hid f6
    have F6' := Lib.hid f6'
    have R1 := Lib.hid r1
    have R2 := Lib.hid r2
    have R3 := Lib.hid r3
    have R6 := Lib.hid r6
    clear hf hpk f1 f2 f3 f3' f4 f5 f6 f6' r1 r2 r3 r6 g1 g2 p1 p2 fa fb hc hcr hla hlb hea heb
    obtain ⟨a0, n0, k0, b0, o0, rfl, x0⟩ := ha
    obtain ⟨a1, n1, k1, b1, o1, rfl, x1⟩ := hb
    dsimp only at x0 x1
    have hc1 : -9223372036854775808 ≤ c ∧ c ≤ 9223372036854775807 := bounds_i64 hcw
    obtain ⟨hcl, hch⟩ := hc1
    clear hcw
    go_enter Try.func8, Try.ntmps8
    go_wp2_with fail
    refine (matFact_any _).mono ?_
    rintro e w1 ⟨rfl, hb1⟩
    have B0 := ((Box.new w [.int .i64 R, .int .i64 K, .slice a0 n0 k0] 31).alloc _).keep hb1
    have B0c := B0.cell
    have B0f := B0.thawed
    have B0z := B0.lt
    have B0k := lt_add B0z
    have B1 := (Box.new' _ (w.heap.size + 1) [.int .i64 K, .int .i64 C, .slice a1 n1 k1] 31 (by simp)).keep hb1
    have B1c := B1.cell
    have B1f := B1.thawed
    have B1z := B1.lt
    have B1k := lt_add B1z
    have hkw1 : Below w.heap.size w w1 := (by repeat (first | exact Below.refl _ _ | refine Below.al ?_ _ | refine Below.drN ?_ _ | refine Below.drew ?_ | refine Below.st ?_ (by first | (dsimp only; omega) | (simp; omega) | simp) _ | refine Below.go ?_ hb1))
    replace x0 := x0.keep hkw1
    replace x1 := x1.keep hkw1
    go_wp2_with fail
    refine (matMul_ok ⟨R, K, xs⟩ ⟨K, C, ys⟩ _ _ _ (MatAt.mk x0) (MatAt.mk x1) HF.out).mono ?_
    rintro e w2 ⟨v2, rfl, ⟨a2, n2, k2, b2, o2, rfl, x2⟩, hb2⟩
    have hkw2 : Below w1.heap.size w1 w2 := (by repeat (first | exact Below.refl _ _ | refine Below.al ?_ _ | refine Below.drN ?_ _ | refine Below.drew ?_ | refine Below.st ?_ (by first | (dsimp only; omega) | (simp; omega) | simp) _ | refine Below.go ?_ hb2))
    replace B0 := B0.keep hkw2
    replace B0c := B0.cell
    replace B0f := B0.thawed
    replace B0z := B0.lt
    replace B0k := lt_add B0z
    replace B1 := B1.keep hkw2
    replace B1c := B1.cell
    replace B1f := B1.thawed
    replace B1z := B1.lt
    replace B1k := lt_add B1z
    replace x0 := x0.keep hkw2
    replace x1 := x1.keep hkw2
    go_wp2_with fail
    refine (pick_any c ((R : Int) + 1) _ hcl hch (by omega) (by omega)).mono ?_
    rintro e w' ⟨rfl, rfl⟩
    rw [HPK.out]
    go_wp2_with fail
    refine (matRows_ok ⟨R, K, xs⟩ _ 0 k _ (MatAt.mk (x0.alloc _)) F1.out).mono ?_
    rw [R1.out]
    rintro e w3 ⟨v3, rfl, ⟨a3, n3, k3, b3, o3, rfl, x3⟩, hb3⟩
    have B2 := (Box.new w2 _ 31).keep hb3
    have B2c := B2.cell
    have B2f := B2.thawed
    have B2z := B2.lt
    have B2k := lt_add B2z
    have hkw3 : Below w2.heap.size w2 w3 := (by repeat (first | exact Below.refl _ _ | refine Below.al ?_ _ | refine Below.drN ?_ _ | refine Below.drew ?_ | refine Below.st ?_ (by first | (dsimp only; omega) | (simp; omega) | simp) _ | refine Below.go ?_ hb3))
    replace B0 := B0.keep hkw3
    replace B0c := B0.cell
    replace B0f := B0.thawed
    replace B0z := B0.lt
    replace B0k := lt_add B0z
    replace B1 := B1.keep hkw3
    replace B1c := B1.cell
    replace B1f := B1.thawed
    replace B1z := B1.lt
    replace B1k := lt_add B1z
    replace x0 := x0.keep hkw3
    replace x1 := x1.keep hkw3
    replace x2 := x2.keep hkw3
    go_wp2_with fail
    refine (matRows_ok ⟨R, K, xs⟩ _ k R _ (MatAt.mk (x0.alloc _)) F2.out).mono ?_
    rw [R2.out]
    rintro e w4 ⟨v4, rfl, ⟨a4, n4, k4, b4, o4, rfl, x4⟩, hb4⟩
    have B3 := (Box.new w3 _ 31).keep hb4
    have B3c := B3.cell
    have B3f := B3.thawed
    have B3z := B3.lt
    have B3k := lt_add B3z
    have hkw4 : Below w3.heap.size w3 w4 := (by repeat (first | exact Below.refl _ _ | refine Below.al ?_ _ | refine Below.drN ?_ _ | refine Below.drew ?_ | refine Below.st ?_ (by first | (dsimp only; omega) | (simp; omega) | simp) _ | refine Below.go ?_ hb4))
    replace B0 := B0.keep hkw4
    replace B0c := B0.cell
    replace B0f := B0.thawed
    replace B0z := B0.lt
    replace B0k := lt_add B0z
    replace B1 := B1.keep hkw4
    replace B1c := B1.cell
    replace B1f := B1.thawed
    replace B1z := B1.lt
    replace B1k := lt_add B1z
    replace B2 := B2.keep hkw4
    replace B2c := B2.cell
    replace B2f := B2.thawed
    replace B2z := B2.lt
    replace B2k := lt_add B2z
    replace x0 := x0.keep hkw4
    replace x1 := x1.keep hkw4
    replace x2 := x2.keep hkw4
    replace x3 := x3.keep hkw4
    go_wp2_with fail
    refine (matStack_any _ 2 2 (w4.heap.size + 1) 0 [topOf R K xs k, botOf R K xs k] _ (mats2 (Box.new' _ _ _ _ (by simp)) (x3.alloc _ |>.alloc _) (x4.alloc _ |>.alloc _)) (by omega) F3'.out (by omega)).mono ?_
    rintro e w5 ⟨h5, _, hb5⟩
    obtain ⟨v5, rfl, hm5⟩ := h5 F3.out
    clear h5
    rw [R3.out] at hm5
    obtain ⟨a5, n5, k5, b5, o5, rfl, hn5, x5⟩ := hm5
    have B4 := ((Box.new w4 _ 31).alloc _).keep hb5
    have B4c := B4.cell
    have B4f := B4.thawed
    have B4z := B4.lt
    have B4k := lt_add B4z
    have hx2 := x2.lt
    have hkw5 : Below w4.heap.size w4 w5 := (by repeat (first | exact Below.refl _ _ | refine Below.al ?_ _ | refine Below.drN ?_ _ | refine Below.drew ?_ | refine Below.st ?_ (by first | (dsimp only; omega) | (simp; omega) | simp) _ | refine Below.go ?_ hb5))
    replace B0 := B0.keep hkw5
    replace B0c := B0.cell
    replace B0f := B0.thawed
    replace B0z := B0.lt
    replace B0k := lt_add B0z
    replace B1 := B1.keep hkw5
    replace B1c := B1.cell
    replace B1f := B1.thawed
    replace B1z := B1.lt
    replace B1k := lt_add B1z
    replace B2 := B2.keep hkw5
    replace B2c := B2.cell
    replace B2f := B2.thawed
    replace B2z := B2.lt
    replace B2k := lt_add B2z
    replace B3 := B3.keep hkw5
    replace B3c := B3.cell
    replace B3f := B3.thawed
    replace B3z := B3.lt
    replace B3k := lt_add B3z
    replace x0 := x0.keep hkw5
    replace x1 := x1.keep hkw5
    replace x2 := x2.keep hkw5
    replace x3 := x3.keep hkw5
    replace x4 := x4.keep hkw5
    go_wp2_with fail
    refine (matrices_any ⟨R, K, xs⟩ ⟨R, K, xs⟩ _ _ _ (MatAt.mk (x5.alloc _)) (MatAt.mk (x0.alloc _))).mono ?_
    rintro e w6 ⟨rfl, hb6⟩
    have q1 : w2.heap.size ≠ w5.heap.size := by omega
    have q2 : w5.heap.size ≠ w2.heap.size := by omega
    have q3 : w.heap.size ≤ w5.heap.size := by omega
    have hd : decide ((⟨R, K, xs⟩ : Mat) = ⟨R, K, xs⟩) = true := decide_eq_true rfl
    have B5 := (Box.new w5 _ 31).keep hb6
    have B5c := B5.cell
    have B5f := B5.thawed
    have B5z := B5.lt
    have B5k := lt_add B5z
    have hkw6 : Below w5.heap.size w5 w6 := (by repeat (first | exact Below.refl _ _ | refine Below.al ?_ _ | refine Below.drN ?_ _ | refine Below.drew ?_ | refine Below.st ?_ (by first | (dsimp only; omega) | (simp; omega) | simp) _ | refine Below.go ?_ hb6))
    replace B0 := B0.keep hkw6
    replace B0c := B0.cell
    replace B0f := B0.thawed
    replace B0z := B0.lt
    replace B0k := lt_add B0z
    replace B1 := B1.keep hkw6
    replace B1c := B1.cell
    replace B1f := B1.thawed
    replace B1z := B1.lt
    replace B1k := lt_add B1z
    replace B2 := B2.keep hkw6
    replace B2c := B2.cell
    replace B2f := B2.thawed
    replace B2z := B2.lt
    replace B2k := lt_add B2z
    replace B3 := B3.keep hkw6
    replace B3c := B3.cell
    replace B3f := B3.thawed
    replace B3z := B3.lt
    replace B3k := lt_add B3z
    replace B4 := B4.keep hkw6
    replace B4c := B4.cell
    replace B4f := B4.thawed
    replace B4z := B4.lt
    replace B4k := lt_add B4z
    replace x1 := x1.keep hkw6
    replace x2 := x2.keep hkw6
    replace x3 := x3.keep hkw6
    replace x4 := x4.keep hkw6
    go_wp2_with fail
    refine (matMul_ok (topOf R K xs k) ⟨K, C, ys⟩ _ _ _ (MatAt.mk x3) (MatAt.mk x1) F4.out).mono ?_
    rintro e w7 ⟨v7, rfl, ⟨a7, n7, k7, b7, o7, rfl, x7⟩, hb7⟩
    have hkw7 : Below w6.heap.size w6 w7 := (by repeat (first | exact Below.refl _ _ | refine Below.al ?_ _ | refine Below.drN ?_ _ | refine Below.drew ?_ | refine Below.st ?_ (by first | (dsimp only; omega) | (simp; omega) | simp) _ | refine Below.go ?_ hb7))
    replace B1 := B1.keep hkw7
    replace B1c := B1.cell
    replace B1f := B1.thawed
    replace B1z := B1.lt
    replace B1k := lt_add B1z
    replace B2 := B2.keep hkw7
    replace B2c := B2.cell
    replace B2f := B2.thawed
    replace B2z := B2.lt
    replace B2k := lt_add B2z
    replace B4 := B4.keep hkw7
    replace B4c := B4.cell
    replace B4f := B4.thawed
    replace B4z := B4.lt
    replace B4k := lt_add B4z
    replace B5 := B5.keep hkw7
    replace B5c := B5.cell
    replace B5f := B5.thawed
    replace B5z := B5.lt
    replace B5k := lt_add B5z
    replace x1 := x1.keep hkw7
    replace x2 := x2.keep hkw7
    replace x4 := x4.keep hkw7
    go_wp2_with fail
    refine (matMul_ok (botOf R K xs k) ⟨K, C, ys⟩ _ _ _ (MatAt.mk (x4.alloc _)) (MatAt.mk (x1.alloc _)) F5.out).mono ?_
    rintro e w8 ⟨v8, rfl, ⟨a8, n8, k8, b8, o8, rfl, x8⟩, hb8⟩
    have B7 := (Box.new w7 _ 31).keep hb8
    have B7c := B7.cell
    have B7f := B7.thawed
    have B7z := B7.lt
    have B7k := lt_add B7z
    have hkw8 : Below w7.heap.size w7 w8 := (by repeat (first | exact Below.refl _ _ | refine Below.al ?_ _ | refine Below.drN ?_ _ | refine Below.drew ?_ | refine Below.st ?_ (by first | (dsimp only; omega) | (simp; omega) | simp) _ | refine Below.go ?_ hb8))
    replace B2 := B2.keep hkw8
    replace B2c := B2.cell
    replace B2f := B2.thawed
    replace B2z := B2.lt
    replace B2k := lt_add B2z
    replace B5 := B5.keep hkw8
    replace B5c := B5.cell
    replace B5f := B5.thawed
    replace B5z := B5.lt
    replace B5k := lt_add B5z
    replace x2 := x2.keep hkw8
    replace x7 := x7.keep hkw8
    go_wp2_with fail
    refine (matStack_any _ 2 2 (w8.heap.size + 1) 0 [matMul (topOf R K xs k) ⟨K, C, ys⟩, matMul (botOf R K xs k) ⟨K, C, ys⟩] _ (mats2 (Box.new' _ _ _ _ (by simp)) (x7.alloc _ |>.alloc _) (x8.alloc _ |>.alloc _)) (by omega) F6'.out (by omega)).mono ?_
    rintro e w9 ⟨h9, _, hb9⟩
    obtain ⟨v9, rfl, hm9⟩ := h9 F6.out
    clear h9
    rw [R6.out] at hm9
    obtain ⟨a9, n9, k9, b9, o9, rfl, hn9, x9⟩ := hm9
    have z8 := B5z
    have hkw9 : Below w8.heap.size w8 w9 := (by repeat (first | exact Below.refl _ _ | refine Below.al ?_ _ | refine Below.drN ?_ _ | refine Below.drew ?_ | refine Below.st ?_ (by first | (dsimp only; omega) | (simp; omega) | simp) _ | refine Below.go ?_ hb9))
    replace B2 := B2.keep hkw9
    replace B2c := B2.cell
    replace B2f := B2.thawed
    replace B2z := B2.lt
    replace B2k := lt_add B2z
    replace B5 := B5.keep hkw9
    replace B5c := B5.cell
    replace B5f := B5.thawed
    replace B5z := B5.lt
    replace B5k := lt_add B5z
    replace x2 := x2.keep hkw9
    go_wp2_with fail
    refine (matrices_any (matMul ⟨R, K, xs⟩ ⟨K, C, ys⟩) (matMul ⟨R, K, xs⟩ ⟨K, C, ys⟩) _ _ _ (MatAt.set3 (B := w5.heap.size) x9 (fun h0 => by have := hn9 h0; simp at this; omega) _ _ _) (MatAt.set3 (B := w5.heap.size) x2 (fun h0 => by have := hx2 h0; have := hkw5.size; omega) _ _ _)).mono ?_
    rintro e w10 ⟨rfl, hb10⟩
    have hd2 : decide (matMul ⟨R, K, xs⟩ ⟨K, C, ys⟩ = matMul ⟨R, K, xs⟩ ⟨K, C, ys⟩) = true := decide_eq_true rfl
    go_wp2
    go_ret
    exact ⟨rfl, (by repeat (first | exact Below.refl _ _ | refine Below.al ?_ _ | refine Below.drN ?_ _ | refine Below.drew ?_ | refine Below.st ?_ (by first | (dsimp only; omega) | (simp; omega) | simp) _ | refine Below.go ?_ hb10 | refine Below.go ?_ hb9 | refine Below.go ?_ hb8 | refine Below.go ?_ hb7 | refine Below.go ?_ hb6 | refine Below.go ?_ hb5 | refine Below.go ?_ hb4 | refine Below.go ?_ hb3 | refine Below.go ?_ hb2 | refine Below.go ?_ hb1))⟩
  · have hE : errV (mulFault ma mb) = .iface 26 (.int .i64 (mulFault ma mb)) := errV_err hf
    have HF := Lib.hid hf
    clear hf
    obtain ⟨a0, n0, k0, b0, o0, rfl, x0⟩ := ha
    obtain ⟨a1, n1, k1, b1, o1, rfl, x1⟩ := hb
    go_enter Try.func8, Try.ntmps8
    go_wp2_with fail
    refine (matFact_any _).mono ?_
    rintro e w1 ⟨rfl, hb1⟩
    have B0 := ((Box.new w [.int .i64 ma.rows, .int .i64 ma.cols, .slice a0 n0 k0] 31).alloc _).keep hb1
    have B0c := B0.cell
    have B0f := B0.thawed
    have B0z := B0.lt
    have B0k := lt_add B0z
    have B1 := (Box.new' _ (w.heap.size + 1) [.int .i64 mb.rows, .int .i64 mb.cols, .slice a1 n1 k1] 31 (by simp)).keep hb1
    have B1c := B1.cell
    have B1f := B1.thawed
    have B1z := B1.lt
    have B1k := lt_add B1z
    have hkw1 : Below w.heap.size w w1 := (by repeat (first | exact Below.refl _ _ | refine Below.al ?_ _ | refine Below.drN ?_ _ | refine Below.drew ?_ | refine Below.st ?_ (by first | (dsimp only; omega) | (simp; omega) | simp) _ | refine Below.go ?_ hb1))
    replace x0 := x0.keep hkw1
    replace x1 := x1.keep hkw1
    go_wp2_with fail
    refine (matMul_bad ma mb _ _ _ (MatAt.mk x0) (MatAt.mk x1) HF.out).mono ?_
    rintro e w2 ⟨rfl, hb2⟩
    go_wp2
    go_ret
    exact ⟨rfl, (by repeat (first | exact Below.refl _ _ | refine Below.al ?_ _ | refine Below.drN ?_ _ | refine Below.drew ?_ | refine Below.st ?_ (by first | (dsimp only; omega) | (simp; omega) | simp) _ | refine Below.go ?_ hb2 | refine Below.go ?_ hb1))⟩

theorem own : ownKnob Try.prog.godebug = none := by kernel_rfl
theorem laidOut : laidOutB Try.prog = true := by kernel_rfl
set_option maxRecDepth 100000 in
theorem lifted (os : Os) (started : os.Started) (H : Type) (enc : TypeId × Value → H) :
    ReturnsInHanded {} Try.checked os 8 .any (Rows.matApartSpec.pre6 enc Try.prog Try.f8 Rows.matApartRow.domain false) (Rows.matApartSpec.post enc Try.prog Try.f8 false true false false) := by
  refine returnsInHanded_of_change (C := Try.checked) own started (by kernel_rfl) Try.func8
    (ChangeSpec.witness6 (enc := enc) (C := Try.checked) false ⟨#[], #[.agg #[.int .i64 0, .int .i64 0, .slice none 0 0], .agg #[.int .i64 0, .int .i64 0, .slice none 0 0], .int .i64 0], []⟩ 8 (by kernel_rfl) (by kernel_rfl) (by kernel_rfl) (by kernel_rfl)) ?_
  intro W base args ds gs before hval0 hW hcnd hsz
  have hval : ∀ (j : Nat) t v, Try.f8.params[j]? = some t → args[j]? = some v → Value.okWide Try.prog W .any base t v := hval0
  have hW' := hW
  obtain ⟨p, q, hA0, hV, rfl, hfz, hnd⟩ := hW
  have hA : DataW.TrodAll enc Try.prog W 0 (fun _ => true) true Try.f8.params.toList args.toList ds p := hA0
  rw [Try.params8] at hA hval
  obtain ⟨v0, vs0, d0, ds0, p0, q0, hargs, rfl, rfl, h0, r0⟩ := trodAll_cons hA
  obtain ⟨v1, vs1, d1, ds1, p1, q1, rfl, rfl, rfl, h1, r1⟩ := trodAll_cons r0
  obtain ⟨v2, vs2, d2, ds2, p2, q2, rfl, rfl, rfl, h2, r2⟩ := trodAll_cons r1
  obtain ⟨rfl, rfl, rfl⟩ := trodAll_nil r2
  obtain rfl : args = #[v0, v1, v2] := by cases args; simp_all
  obtain ⟨rfl, rfl⟩ := trodVars_none hV
  have k0 := h0
  have lt0 : ∀ x ∈ p0, x.block < W.heap.size := by obtain ⟨m, hm⟩ := k0; exact DataW.trod_lt m _ _ _ hm
  have k1 := h1
  have lt1 : ∀ x ∈ p1, x.block < W.heap.size := by obtain ⟨m, hm⟩ := k1; exact DataW.trod_lt m _ _ _ hm
  have k2 := h2
  have lt2 : ∀ x ∈ p2, x.block < W.heap.size := by obtain ⟨m, hm⟩ := k2; exact DataW.trod_lt m _ _ _ hm
  obtain ⟨a0, w0⟩ := open_mat (hval 0 31 v0 rfl rfl) h0
  obtain ⟨a1, w1⟩ := open_mat (hval 1 31 v1 rfl rfl) h1
  obtain ⟨a2, rfl, rfl, rfl, w2⟩ := open_int Try.underlying3 (hval 2 3 v2 rfl rfl) h2
  clear hA0 hval0
  refine (walk a0 v0 a1 v1 a2 W w0 w1 w2).mono fun e W' ⟨he, bel⟩ => ?_
  subst he
  exact ⟨_, rfl, _, _, _, [], _, [], hW', trodAll_mk1 (shut_bool Try.underlying4 _), (trodAll_cons_mk (Below.trod laidOut (by kernel_rfl) (of_decide_eq_true (by kernel_rfl)) k0 bel lt0) (trodAll_cons_mk (Below.trod laidOut (by kernel_rfl) (of_decide_eq_true (by kernel_rfl)) k1 bel lt1) (trodAll_cons_mk (Below.trod laidOut (by kernel_rfl) (of_decide_eq_true (by kernel_rfl)) k2 bel lt2) trodAll_mk0))), rfl, bel.frame _, fun h => by cases h⟩

theorem proved : Rows.MatApartSaid :=
  OpenClaim.holds_of_wide 8 Try.f8 rfl rfl rfl rfl rfl rfl rfl ⟨rfl, rfl, rfl, rfl, rfl⟩ rfl rfl rfl rfl rfl (by kernel_rfl) Try.func8 (by kernel_rfl)
    (of_decide_eq_true (by kernel_rfl)) (by unfold Func.isWrapper; first | (rw [if_pos (by decide +kernel)]; kernel_rfl) | (rw [if_neg (by decide +kernel)]; exact ⟨rfl, rfl⟩))
    (fun os started H enc _ => lifted os started H enc)
#print axioms proved

end Go.Proofs.Ytlfeijffjpjnnaa.lawMatApart
