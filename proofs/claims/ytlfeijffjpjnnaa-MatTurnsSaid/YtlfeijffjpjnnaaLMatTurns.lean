/- MatTurns: of any two matrices whose product there is, the product, turned, is the product of the turned ones, the other way round: the law returns true, and the input reads as it did. No condition. -/
import Derived.Test.YtlfeijffjpjnnaaRows
import Derived.Test.YtlfeijffjpjnnaaBlank
import Derived.Test.YtlfeijffjpjnnaaMat6
import Derived.Test.YtlfeijffjpjnnaaOpen
import Derived.Test.YtlfeijffjpjnnaaPTurn
set_option linter.unusedVariables false
set_option linter.unusedSimpArgs false
namespace Go.Proofs.Ytlfeijffjpjnnaa.lawMatTurns
open Go.ChangeShapes Go.WideShapes Go.ChangeAt Go.RowKit Gal

set_option maxRecDepth 100000 in
set_option maxHeartbeats 1000000 in
theorem walk (ma : Mat) (va : Value) (mb : Mat) (vb : Value) (w : World) (ha : MatAt w va ma) (hb : MatAt w vb mb) : Calls Try.prog 6 #[va, vb] w fun e w' => e = .returned (.bool true) ∧ Below w.heap.size w w' := by
  by_cases hf : mulFault ma mb = 0
  · obtain ⟨hc, hcr⟩ := mulFault_ok hf
    obtain ⟨fa, fb⟩ := firstFault_two.1 hc
    obtain ⟨R, K, eR, eK, hR, hK, hla, hea⟩ := matFault_ok fa
    obtain ⟨K', C, eK', eC, hK', hC, hlb, heb⟩ := matFault_ok fb
    obtain ⟨mar, mac, xs⟩ := ma
    obtain ⟨mbr, mbc, ys⟩ := mb
    dsimp only at eR eK eK' eC hcr hla hlb
    subst eR eK eK' eC
    obtain rfl : K = K' := by omega
    have FP : (matMul ⟨R, K, xs⟩ ⟨K, C, ys⟩).fault = 0 := matMul_fault hR hC
    have TL := turn_law hla hlb
    by_cases h12 : R ≤ 12
    · have f1 : turnFault (matMul ⟨R, K, xs⟩ ⟨K, C, ys⟩) = 0 := turnFault_zero FP (by show (R : Int) ≤ 12; omega)
      have f2 : turnFault ⟨R, K, xs⟩ = 0 := turnFault_zero fa (by show (R : Int) ≤ 12; omega)
      have f3 : turnFault ⟨K, C, ys⟩ = 0 := turnFault_zero fb (by show (K : Int) ≤ 12; omega)
      have f4 : mulFault (matTurn ⟨K, C, ys⟩) (matTurn ⟨R, K, xs⟩) = 0 := mulFault_zero (turn_fault (by omega) hC hlb heb) (turn_fault h12 hK hla hea) rfl
      have HF := Lib.hid hf
      have H1 := Lib.hid f1
      have H2 := Lib.hid f2
      have H3 := Lib.hid f3
      have H4 := Lib.hid f4
      have HT := Lib.hid TL
      clear hf f1 f2 f3 f4 TL FP fa fb hc hcr
      obtain ⟨a0, n0, k0, b0, o0, rfl, x0⟩ := ha
      obtain ⟨a1, n1, k1, b1, o1, rfl, x1⟩ := hb
      dsimp only at x0 x1
      go_enter Try.func6, Try.ntmps6
      go_wp2_with fail
      refine (matFact_any _).mono ?_
      rintro e w1 ⟨rfl, hb1⟩
      have B0 := ((Box.new w [.int .i64 R, .int .i64 K, .slice a0 n0 k0] 31).alloc _).keep hb1
      have B0c := B0.cell
      have B0f := B0.thawed
      have B0z := B0.lt
      have B0k := lt_add B0z
      have B1 := (Box.new' _ (w.heap.size + 1) [.int .i64 K, .int .i64 C, .slice a1 n1 k1] 31 (by simp)).keep hb1
      have B1c := B1.cell
      have B1f := B1.thawed
      have B1z := B1.lt
      have B1k := lt_add B1z
      have hkw1 : Below w.heap.size w w1 := (by repeat (first | exact Below.refl _ _ | refine Below.al ?_ _ | refine Below.drN ?_ _ | refine Below.drew ?_ | refine Below.st ?_ (by first | (dsimp only; omega) | (simp; omega) | simp) _ | refine Below.go ?_ hb1))
      replace x0 := x0.keep hkw1
      replace x1 := x1.keep hkw1
      go_wp2_with fail
      refine (matMul_ok ⟨R, K, xs⟩ ⟨K, C, ys⟩ _ _ _ (MatAt.mk x0) (MatAt.mk x1) HF.out).mono ?_
      rintro e w2 ⟨v2, rfl, ⟨a2, n2, k2, b2, o2, rfl, x2⟩, hb2⟩
      have hkw2 : Below w1.heap.size w1 w2 := (by repeat (first | exact Below.refl _ _ | refine Below.al ?_ _ | refine Below.drN ?_ _ | refine Below.drew ?_ | refine Below.st ?_ (by first | (dsimp only; omega) | (simp; omega) | simp) _ | refine Below.go ?_ hb2))
      replace B0 := B0.keep hkw2
      replace B0c := B0.cell
      replace B0f := B0.thawed
      replace B0z := B0.lt
      replace B0k := lt_add B0z
      replace B1 := B1.keep hkw2
      replace B1c := B1.cell
      replace B1f := B1.thawed
      replace B1z := B1.lt
      replace B1k := lt_add B1z
      replace x0 := x0.keep hkw2
      replace x1 := x1.keep hkw2
      go_wp2_with fail
      refine (matTurn_ok (matMul ⟨R, K, xs⟩ ⟨K, C, ys⟩) _ _ (MatAt.mk (x2.alloc _)) H1.out).mono ?_
      rw [HT.out]
      rintro e w3 ⟨v3, rfl, ⟨a3, n3, k3, b3, o3, rfl, x3⟩, hb3⟩
      have hkw3 : Below w2.heap.size w2 w3 := (by repeat (first | exact Below.refl _ _ | refine Below.al ?_ _ | refine Below.drN ?_ _ | refine Below.drew ?_ | refine Below.st ?_ (by first | (dsimp only; omega) | (simp; omega) | simp) _ | refine Below.go ?_ hb3))
      replace B0 := B0.keep hkw3
      replace B0c := B0.cell
      replace B0f := B0.thawed
      replace B0z := B0.lt
      replace B0k := lt_add B0z
      replace B1 := B1.keep hkw3
      replace B1c := B1.cell
      replace B1f := B1.thawed
      replace B1z := B1.lt
      replace B1k := lt_add B1z
      replace x0 := x0.keep hkw3
      replace x1 := x1.keep hkw3
      replace x2 := x2.keep hkw3
      go_wp2_with fail
      refine (matTurn_ok ⟨R, K, xs⟩ _ _ (MatAt.mk (x0.alloc _)) H2.out).mono ?_
      rintro e w4 ⟨v4, rfl, ⟨a4, n4, k4, b4, o4, rfl, x4⟩, hb4⟩
      have B3 := (Box.new w3 _ 31).keep hb4
      have B3c := B3.cell
      have B3f := B3.thawed
      have B3z := B3.lt
      have B3k := lt_add B3z
      have hkw4 : Below w3.heap.size w3 w4 := (by repeat (first | exact Below.refl _ _ | refine Below.al ?_ _ | refine Below.drN ?_ _ | refine Below.drew ?_ | refine Below.st ?_ (by first | (dsimp only; omega) | (simp; omega) | simp) _ | refine Below.go ?_ hb4))
      replace B0 := B0.keep hkw4
      replace B0c := B0.cell
      replace B0f := B0.thawed
      replace B0z := B0.lt
      replace B0k := lt_add B0z
      replace B1 := B1.keep hkw4
      replace B1c := B1.cell
      replace B1f := B1.thawed
      replace B1z := B1.lt
      replace B1k := lt_add B1z
      replace x0 := x0.keep hkw4
      replace x1 := x1.keep hkw4
      replace x2 := x2.keep hkw4
      replace x3 := x3.keep hkw4
      go_wp2_with fail
      refine (matTurn_ok ⟨K, C, ys⟩ _ _ (MatAt.mk (x1.alloc _)) H3.out).mono ?_
      rintro e w5 ⟨v5, rfl, ⟨a5, n5, k5, b5, o5, rfl, x5⟩, hb5⟩
      have B4 := (Box.new w4 _ 31).keep hb5
      have B4c := B4.cell
      have B4f := B4.thawed
      have B4z := B4.lt
      have B4k := lt_add B4z
      have hkw5 : Below w4.heap.size w4 w5 := (by repeat (first | exact Below.refl _ _ | refine Below.al ?_ _ | refine Below.drN ?_ _ | refine Below.drew ?_ | refine Below.st ?_ (by first | (dsimp only; omega) | (simp; omega) | simp) _ | refine Below.go ?_ hb5))
      replace B0 := B0.keep hkw5
      replace B0c := B0.cell
      replace B0f := B0.thawed
      replace B0z := B0.lt
      replace B0k := lt_add B0z
      replace B1 := B1.keep hkw5
      replace B1c := B1.cell
      replace B1f := B1.thawed
      replace B1z := B1.lt
      replace B1k := lt_add B1z
      replace B3 := B3.keep hkw5
      replace B3c := B3.cell
      replace B3f := B3.thawed
      replace B3z := B3.lt
      replace B3k := lt_add B3z
      replace x0 := x0.keep hkw5
      replace x1 := x1.keep hkw5
      replace x2 := x2.keep hkw5
      replace x3 := x3.keep hkw5
      replace x4 := x4.keep hkw5
      go_wp2_with fail
      refine (matMul_ok (matTurn ⟨K, C, ys⟩) (matTurn ⟨R, K, xs⟩) _ _ _ (MatAt.mk (x5.alloc _)) (MatAt.mk (x4.alloc _)) H4.out).mono ?_
      rintro e w6 ⟨v6, rfl, ⟨a6, n6, k6, b6, o6, rfl, x6⟩, hb6⟩
      have hkw6 : Below w5.heap.size w5 w6 := (by repeat (first | exact Below.refl _ _ | refine Below.al ?_ _ | refine Below.drN ?_ _ | refine Below.drew ?_ | refine Below.st ?_ (by first | (dsimp only; omega) | (simp; omega) | simp) _ | refine Below.go ?_ hb6))
      replace B0 := B0.keep hkw6
      replace B0c := B0.cell
      replace B0f := B0.thawed
      replace B0z := B0.lt
      replace B0k := lt_add B0z
      replace B1 := B1.keep hkw6
      replace B1c := B1.cell
      replace B1f := B1.thawed
      replace B1z := B1.lt
      replace B1k := lt_add B1z
      replace B3 := B3.keep hkw6
      replace B3c := B3.cell
      replace B3f := B3.thawed
      replace B3z := B3.lt
      replace B3k := lt_add B3z
      replace B4 := B4.keep hkw6
      replace B4c := B4.cell
      replace B4f := B4.thawed
      replace B4z := B4.lt
      replace B4k := lt_add B4z
      replace x3 := x3.keep hkw6
      go_wp2_with fail
      refine (matrices_any (matMul (matTurn ⟨K, C, ys⟩) (matTurn ⟨R, K, xs⟩)) (matMul (matTurn ⟨K, C, ys⟩) (matTurn ⟨R, K, xs⟩)) _ _ _ (MatAt.mk (x3.alloc _)) (MatAt.mk (x6.alloc _))).mono ?_
      rintro e w7 ⟨rfl, hb7⟩
      have hd : decide (matMul (matTurn ⟨K, C, ys⟩) (matTurn ⟨R, K, xs⟩) = matMul (matTurn ⟨K, C, ys⟩) (matTurn ⟨R, K, xs⟩)) = true := decide_eq_true rfl
      go_wp2
      go_ret
      exact ⟨rfl, (by repeat (first | exact Below.refl _ _ | refine Below.al ?_ _ | refine Below.drN ?_ _ | refine Below.drew ?_ | refine Below.st ?_ (by first | (dsimp only; omega) | (simp; omega) | simp) _ | refine Below.go ?_ hb7 | refine Below.go ?_ hb6 | refine Below.go ?_ hb5 | refine Below.go ?_ hb4 | refine Below.go ?_ hb3 | refine Below.go ?_ hb2 | refine Below.go ?_ hb1))⟩
    · have f1 : turnFault (matMul ⟨R, K, xs⟩ ⟨K, C, ys⟩) ≠ 0 := by
        unfold turnFault
        rw [if_pos FP, if_pos (by show 12 < (R : Int); omega)]
        omega
      have hR12 : (12 : Int) < R := by omega
      have HF := Lib.hid hf
      have H1 := Lib.hid f1
      clear hf f1 TL FP fa fb hc hcr h12
      obtain ⟨a0, n0, k0, b0, o0, rfl, x0⟩ := ha
      obtain ⟨a1, n1, k1, b1, o1, rfl, x1⟩ := hb
      dsimp only at x0 x1
      go_enter Try.func6, Try.ntmps6
      go_wp2_with fail
      refine (matFact_any _).mono ?_
      rintro e w1 ⟨rfl, hb1⟩
      have B0 := ((Box.new w [.int .i64 R, .int .i64 K, .slice a0 n0 k0] 31).alloc _).keep hb1
      have B0c := B0.cell
      have B0f := B0.thawed
      have B0z := B0.lt
      have B0k := lt_add B0z
      have B1 := (Box.new' _ (w.heap.size + 1) [.int .i64 K, .int .i64 C, .slice a1 n1 k1] 31 (by simp)).keep hb1
      have B1c := B1.cell
      have B1f := B1.thawed
      have B1z := B1.lt
      have B1k := lt_add B1z
      have hkw1 : Below w.heap.size w w1 := (by repeat (first | exact Below.refl _ _ | refine Below.al ?_ _ | refine Below.drN ?_ _ | refine Below.drew ?_ | refine Below.st ?_ (by first | (dsimp only; omega) | (simp; omega) | simp) _ | refine Below.go ?_ hb1))
      replace x0 := x0.keep hkw1
      replace x1 := x1.keep hkw1
      go_wp2_with fail
      refine (matMul_ok ⟨R, K, xs⟩ ⟨K, C, ys⟩ _ _ _ (MatAt.mk x0) (MatAt.mk x1) HF.out).mono ?_
      rintro e w2 ⟨v2, rfl, ⟨a2, n2, k2, b2, o2, rfl, x2⟩, hb2⟩
      go_wp2_with fail
      refine (matTurn_bad (matMul ⟨R, K, xs⟩ ⟨K, C, ys⟩) _ _ (MatAt.mk (x2.alloc _)) H1.out).mono ?_
      rintro e w3 ⟨rfl, hb3⟩
      have B2 := (Box.new w2 [.int .i64 R, .int .i64 C, .slice a2 n2 k2] 31).keep hb3
      have B2c := B2.cell
      have B2f := B2.thawed
      have B2z := B2.lt
      have B2k := lt_add B2z
      go_wp2
      go_ret
      exact ⟨rfl, (by repeat (first | exact Below.refl _ _ | refine Below.al ?_ _ | refine Below.drN ?_ _ | refine Below.drew ?_ | refine Below.st ?_ (by first | (dsimp only; omega) | (simp; omega) | simp) _ | refine Below.go ?_ hb3 | refine Below.go ?_ hb2 | refine Below.go ?_ hb1))⟩
  · have hE : errV (mulFault ma mb) = .iface 26 (.int .i64 (mulFault ma mb)) := errV_err hf
    have HF := Lib.hid hf
    clear hf
    obtain ⟨a0, n0, k0, b0, o0, rfl, x0⟩ := ha
    obtain ⟨a1, n1, k1, b1, o1, rfl, x1⟩ := hb
    go_enter Try.func6, Try.ntmps6
    go_wp2_with fail
    refine (matFact_any _).mono ?_
    rintro e w1 ⟨rfl, hb1⟩
    have B0 := ((Box.new w [.int .i64 ma.rows, .int .i64 ma.cols, .slice a0 n0 k0] 31).alloc _).keep hb1
    have B0c := B0.cell
    have B0f := B0.thawed
    have B0z := B0.lt
    have B0k := lt_add B0z
    have B1 := (Box.new' _ (w.heap.size + 1) [.int .i64 mb.rows, .int .i64 mb.cols, .slice a1 n1 k1] 31 (by simp)).keep hb1
    have B1c := B1.cell
    have B1f := B1.thawed
    have B1z := B1.lt
    have B1k := lt_add B1z
    have hkw1 : Below w.heap.size w w1 := (by repeat (first | exact Below.refl _ _ | refine Below.al ?_ _ | refine Below.drN ?_ _ | refine Below.drew ?_ | refine Below.st ?_ (by first | (dsimp only; omega) | (simp; omega) | simp) _ | refine Below.go ?_ hb1))
    replace x0 := x0.keep hkw1
    replace x1 := x1.keep hkw1
    go_wp2_with fail
    refine (matMul_bad ma mb _ _ _ (MatAt.mk x0) (MatAt.mk x1) HF.out).mono ?_
    rintro e w2 ⟨rfl, hb2⟩
    go_wp2
    go_ret
    exact ⟨rfl, (by repeat (first | exact Below.refl _ _ | refine Below.al ?_ _ | refine Below.drN ?_ _ | refine Below.drew ?_ | refine Below.st ?_ (by first | (dsimp only; omega) | (simp; omega) | simp) _ | refine Below.go ?_ hb2 | refine Below.go ?_ hb1))⟩

theorem own : ownKnob Try.prog.godebug = none := by kernel_rfl
theorem laidOut : laidOutB Try.prog = true := by kernel_rfl
set_option maxRecDepth 100000 in
theorem lifted (os : Os) (started : os.Started) (H : Type) (enc : TypeId × Value → H) :
    ReturnsInHanded {} Try.checked os 6 .any (Rows.matTurnsSpec.pre6 enc Try.prog Try.f6 Rows.matTurnsRow.domain false) (Rows.matTurnsSpec.post enc Try.prog Try.f6 false true false false) := by
  refine returnsInHanded_of_change (C := Try.checked) own started (by kernel_rfl) Try.func6
    (ChangeSpec.witness6 (enc := enc) (C := Try.checked) false ⟨#[], #[.agg #[.int .i64 0, .int .i64 0, .slice none 0 0], .agg #[.int .i64 0, .int .i64 0, .slice none 0 0]], []⟩ 8 (by kernel_rfl) (by kernel_rfl) (by kernel_rfl) (by kernel_rfl)) ?_
  intro W base args ds gs before hval0 hW hcnd hsz
  have hval : ∀ (j : Nat) t v, Try.f6.params[j]? = some t → args[j]? = some v → Value.okWide Try.prog W .any base t v := hval0
  have hW' := hW
  obtain ⟨p, q, hA0, hV, rfl, hfz, hnd⟩ := hW
  have hA : DataW.TrodAll enc Try.prog W 0 (fun _ => true) true Try.f6.params.toList args.toList ds p := hA0
  rw [Try.params6] at hA hval
  obtain ⟨v0, vs0, d0, ds0, p0, q0, hargs, rfl, rfl, h0, r0⟩ := trodAll_cons hA
  obtain ⟨v1, vs1, d1, ds1, p1, q1, rfl, rfl, rfl, h1, r1⟩ := trodAll_cons r0
  obtain ⟨rfl, rfl, rfl⟩ := trodAll_nil r1
  obtain rfl : args = #[v0, v1] := by cases args; simp_all
  obtain ⟨rfl, rfl⟩ := trodVars_none hV
  have k0 := h0
  have lt0 : ∀ x ∈ p0, x.block < W.heap.size := by obtain ⟨m, hm⟩ := k0; exact DataW.trod_lt m _ _ _ hm
  have k1 := h1
  have lt1 : ∀ x ∈ p1, x.block < W.heap.size := by obtain ⟨m, hm⟩ := k1; exact DataW.trod_lt m _ _ _ hm
  obtain ⟨a0, w0⟩ := open_mat (hval 0 31 v0 rfl rfl) h0
  obtain ⟨a1, w1⟩ := open_mat (hval 1 31 v1 rfl rfl) h1
  clear hA0 hval0
  refine (walk a0 v0 a1 v1 W w0 w1).mono fun e W' ⟨he, bel⟩ => ?_
  subst he
  exact ⟨_, rfl, _, _, _, [], _, [], hW', trodAll_mk1 (shut_bool Try.underlying4 _), (trodAll_cons_mk (Below.trod laidOut (by kernel_rfl) (of_decide_eq_true (by kernel_rfl)) k0 bel lt0) (trodAll_cons_mk (Below.trod laidOut (by kernel_rfl) (of_decide_eq_true (by kernel_rfl)) k1 bel lt1) trodAll_mk0)), rfl, bel.frame _, fun h => by cases h⟩

theorem proved : Rows.MatTurnsSaid :=
  OpenClaim.holds_of_wide 6 Try.f6 rfl rfl rfl rfl rfl rfl rfl ⟨rfl, rfl, rfl, rfl, rfl⟩ rfl rfl rfl rfl rfl (by kernel_rfl) Try.func6 (by kernel_rfl)
    (of_decide_eq_true (by kernel_rfl)) (by unfold Func.isWrapper; first | (rw [if_pos (by decide +kernel)]; kernel_rfl) | (rw [if_neg (by decide +kernel)]; exact ⟨rfl, rfl⟩))
    (fun os started H enc _ => lifted os started H enc)
#print axioms proved

end Go.Proofs.Ytlfeijffjpjnnaa.lawMatTurns
