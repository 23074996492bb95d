/- LossNought: nothing is below nought; what is as wanted is not off at all; the other way round it is as far, and what goes back is the opposite: the law returns true, and the input reads as it did. No condition. -/
import Derived.Test.YtlfeijffjpjnnaaRows
import Derived.Test.YtlfeijffjpjnnaaLoss2
import Derived.Test.YtlfeijffjpjnnaaOpen
import Derived.Test.YtlfeijffjpjnnaaPNought
import Derived.BigQuiet
import Derived.IntWalk
import Derived.RegionTactic
set_option linter.unusedVariables false
set_option linter.unusedSimpArgs false
namespace Go.Proofs.Ytlfeijffjpjnnaa.lawLossNought
open Go.ChangeShapes Go.WideShapes Go.ChangeAt Go.RowKit Gal

theorem ints2 {w : World} {b : Nat} {x y : Int} {t : TypeId} (h : Box w b [.int .i64 x, .int .i64 y] t) : IntsAt w (some ⟨b, 0, none⟩) 2 2 b 0 [x, y] := by
  refine ⟨rfl, Nat.le_refl _, by unfold maxLen; omega, fun _ => rfl, fun _ => h.lt, fun i hi => ?_⟩
  rcases (by omega : i = 0 ∨ i = 1) with rfl | rfl
  · exact (h.cell _).trans rfl
  · exact (h.cell _).trans rfl

set_option maxRecDepth 100000 in
set_option maxHeartbeats 2000000 in
theorem walk (ma : Mat) (va : Value) (mb : Mat) (vb : Value) (w : World) (ha : MatAt w va ma) (hb : MatAt w vb mb) : Calls Try.prog 7 #[va, vb] w fun e w' => e = .returned (.bool true) ∧ Below w.heap.size w w' := by
  have h1 : lossFault ⟨1, 2, [512, 0]⟩ ⟨1, 2, [256, 256]⟩ = 0 := by decide
  have hl1 : lossOf ⟨1, 2, [512, 0]⟩ ⟨1, 2, [256, 256]⟩ = 256 := by decide
  by_cases hf : lossFault ma mb = 0
  · have hlen := loss_len hf
    obtain ⟨fa, fb, hr, hc⟩ := lossFault_ok hf
    have hg : lossFault mb ma = 0 := lossFault_zero fb fa hr.symm hc.symm
    have hh : lossFault ma ma = 0 := lossFault_zero fa fa rfl rfl
    have hn1 := lossOf_nn ma mb
    have hn2 := lossOf_flip hlen
    have hn3 := lossOf_self ma
    have e1 : decide (lossOf ma mb < 0) = false := decide_eq_false (by omega)
    have HF := Lib.hid hf
    have HG := Lib.hid hg
    have HH := Lib.hid hh
    clear hf hg hh fa fb hr hc hn1
    obtain ⟨a0, n0, k0, b0, o0, rfl, x0⟩ := ha
    obtain ⟨a1, n1, k1, b1, o1, rfl, x1⟩ := hb
    have hl0 := x0.len
    have hl1' := x1.len
    go_enter Try.func7, Try.ntmps7
    go_wp2_with fail
    refine (lossOf_ok ⟨1, 2, [512, 0]⟩ ⟨1, 2, [256, 256]⟩ _ _ _ (MatAt.mk (ints2 ((Box.new' _ _ _ 3 (by simp)).alloc _))) (MatAt.mk (ints2 (Box.new' _ _ _ 3 (by simp)))) h1).mono ?_
    rintro e w1 ⟨rfl, hb1⟩
    rw [hl1]
    have B0 := ((((Box.new w [.int .i64 ma.rows, .int .i64 ma.cols, .slice a0 n0 k0] 31).alloc _).alloc _).alloc _).keep hb1
    have B0c := B0.cell
    have B0f := B0.thawed
    have B0z := B0.lt
    have B0k := lt_add B0z
    have B1 := (((Box.new' _ (w.heap.size + 1) [.int .i64 mb.rows, .int .i64 mb.cols, .slice a1 n1 k1] 31 (by simp)).alloc _).alloc _).keep hb1
    have B1c := B1.cell
    have B1f := B1.thawed
    have B1z := B1.lt
    have B1k := lt_add B1z
    have y0 := (x0.alloc _ |>.alloc _ |>.alloc _ |>.alloc _).keep hb1
    have y1 := (x1.alloc _ |>.alloc _ |>.alloc _ |>.alloc _).keep hb1
    clear x0 x1
    have x0 := y0
    have x1 := y1
    clear y0 y1
    go_wp2_with fail
    refine (lossOf_ok ma mb _ _ _ (MatAt.mk x0) (MatAt.mk x1) HF.out).mono ?_
    rintro e w2 ⟨rfl, hb2⟩
    have hkw2 : Below w1.heap.size w1 w2 := (by repeat (first | exact Below.refl _ _ | refine Below.al ?_ _ | refine Below.drN ?_ _ | refine Below.drew ?_ | refine Below.st ?_ (by first | (dsimp only; omega) | (simp; omega) | simp) _ | refine Below.go ?_ hb2))
    replace B0 := B0.keep hkw2
    replace B0c := B0.cell
    replace B0f := B0.thawed
    replace B0z := B0.lt
    replace B0k := lt_add B0z
    replace B1 := B1.keep hkw2
    replace B1c := B1.cell
    replace B1f := B1.thawed
    replace B1z := B1.lt
    replace B1k := lt_add B1z
    replace x0 := x0.keep hkw2
    replace x1 := x1.keep hkw2
    go_wp2_with fail
    refine (lossOf_ok mb ma _ _ _ (MatAt.mk x1) (MatAt.mk x0) HG.out).mono ?_
    rintro e w3 ⟨rfl, hb3⟩
    rw [hn2]
    have hkw3 : Below w2.heap.size w2 w3 := (by repeat (first | exact Below.refl _ _ | refine Below.al ?_ _ | refine Below.drN ?_ _ | refine Below.drew ?_ | refine Below.st ?_ (by first | (dsimp only; omega) | (simp; omega) | simp) _ | refine Below.go ?_ hb3))
    replace B0 := B0.keep hkw3
    replace B0c := B0.cell
    replace B0f := B0.thawed
    replace B0z := B0.lt
    replace B0k := lt_add B0z
    replace B1 := B1.keep hkw3
    replace B1c := B1.cell
    replace B1f := B1.thawed
    replace B1z := B1.lt
    replace B1k := lt_add B1z
    replace x0 := x0.keep hkw3
    replace x1 := x1.keep hkw3
    go_wp2_with fail
    refine (lossOf_ok ma ma _ _ _ (MatAt.mk x0) (MatAt.mk x0) HH.out).mono ?_
    rintro e w4 ⟨rfl, hb4⟩
    rw [hn3]
    have hkw4 : Below w3.heap.size w3 w4 := (by repeat (first | exact Below.refl _ _ | refine Below.al ?_ _ | refine Below.drN ?_ _ | refine Below.drew ?_ | refine Below.st ?_ (by first | (dsimp only; omega) | (simp; omega) | simp) _ | refine Below.go ?_ hb4))
    replace B0 := B0.keep hkw4
    replace B0c := B0.cell
    replace B0f := B0.thawed
    replace B0z := B0.lt
    replace B0k := lt_add B0z
    replace B1 := B1.keep hkw4
    replace B1c := B1.cell
    replace B1f := B1.thawed
    replace B1z := B1.lt
    replace B1k := lt_add B1z
    replace x0 := x0.keep hkw4
    replace x1 := x1.keep hkw4
    go_wp2_with fail
    refine (lossBack_ok ma mb _ _ _ (MatAt.mk x0) (MatAt.mk x1) HF.out).mono ?_
    rintro e w5 ⟨v5, rfl, ⟨a5, n5, k5, b5, o5, rfl, _, x5⟩, hb5⟩
    have hl5 : n5 = n0 := by rw [← x5.len]; exact (offs_length _ _ _).trans hl0
    subst hl5
    have hkw5 : Below w4.heap.size w4 w5 := (by repeat (first | exact Below.refl _ _ | refine Below.al ?_ _ | refine Below.drN ?_ _ | refine Below.drew ?_ | refine Below.st ?_ (by first | (dsimp only; omega) | (simp; omega) | simp) _ | refine Below.go ?_ hb5))
    replace B0 := B0.keep hkw5
    replace B0c := B0.cell
    replace B0f := B0.thawed
    replace B0z := B0.lt
    replace B0k := lt_add B0z
    replace B1 := B1.keep hkw5
    replace B1c := B1.cell
    replace B1f := B1.thawed
    replace B1z := B1.lt
    replace B1k := lt_add B1z
    replace x0 := x0.keep hkw5
    replace x1 := x1.keep hkw5
    go_wp2_with fail
    refine (lossBack_ok mb ma _ _ _ (MatAt.mk (x1.alloc _)) (MatAt.mk (x0.alloc _)) HG.out).mono ?_
    rintro e w6 ⟨v6, rfl, ⟨a6, n6, k6, b6, o6, rfl, _, x6⟩, hb6⟩
    have hl6 : n6 = n5 := by rw [← x6.len]; exact (offs_length _ _ _).trans (by omega)
    subst hl6
    have B5 := (Box.new w5 _ 31).keep hb6
    have B5c := B5.cell
    have B5f := B5.thawed
    have B5z := B5.lt
    have B5k := lt_add B5z
    have y5 := (x5.alloc _).keep hb6
    have hmx := y5.max
    unfold maxLen at hmx
    have hz5 := B5z
    have D5 := B5.alloc (.cells #[.int .i64 mb.rows, .int .i64 mb.cols, .slice a6 n6 k6] 31)
    have D5c := D5.cell
    have D5f := D5.thawed
    have D5z := D5.lt
    have D5k := lt_add D5z
    have D6 := Box.new w6 [.int .i64 mb.rows, .int .i64 mb.cols, .slice a6 n6 k6] 31
    have D6c := D6.cell
    have D6f := D6.thawed
    have D6z := D6.lt
    have D6k := lt_add D6z
    have z5 := y5.alloc (.cells #[.int .i64 mb.rows, .int .i64 mb.cols, .slice a6 n6 k6] 31)
    have z6 := x6.alloc (.cells #[.int .i64 mb.rows, .int .i64 mb.cols, .slice a6 n6 k6] 31)
    go_wp2
    go_loopw [15] (fun i wr => ∃ k m : Nat, k ≤ n6 ∧ i = .int .i64 k ∧ wr = (w6.alloc (.cells #[.int .i64 mb.rows, .int .i64 mb.cols, .slice a6 n6 k6] 31)).drewN m) (fun i _ => n6 - (intOf i).toNat)
    case atStart => exact ⟨0, 0, Nat.zero_le _, rfl, rfl⟩
    case round =>
      obtain ⟨k, m, hk, rfl, rfl⟩ := hrel
      by_cases hlt : k < n6
      · have hltI : (k : Int) < (n6 : Int) := by omega
        obtain rfl := z5.ptr (by omega)
        obtain rfl := z6.ptr (by omega)
        have c5 := z5.cell k hlt
        have c6 := z6.cell k hlt
        have hq : ix (lossBack ma mb).cells k = -(ix (lossBack mb ma).cells k) := by
          show ix (offs ma.cells mb.cells ma.cells.length) k = -(ix (offs mb.cells ma.cells mb.cells.length) k)
          rw [offs_ix (by omega), offs_ix (by omega), ← sub_flip]
        have hlo : -2147483647 ≤ ix (lossBack mb ma).cells k := by
          show _ ≤ ix (offs mb.cells ma.cells mb.cells.length) k
          rw [offs_ix (by omega)]; exact clamp_lo _
        have hhi : ix (lossBack mb ma).cells k ≤ 2147483647 := by
          show ix (offs mb.cells ma.cells mb.cells.length) k ≤ _
          rw [offs_ix (by omega)]; exact clamp_hi _
        rw [hq] at c5
        clear hq
        generalize ix (lossBack mb ma).cells k = y at *
        go_wp2
        go_quiet (fail)
        go_wp2
        go_roundw
        case rel => exact ⟨k + 1, _, by omega, by go_num, rfl⟩
        case measure => simp [intOf]; omega
      · go_wp2
        go_ret
        exact ⟨rfl, below_drewN ((by repeat (first | exact Below.refl _ _ | refine Below.al ?_ _ | refine Below.drN ?_ _ | refine Below.drew ?_ | refine Below.st ?_ (by first | (dsimp only; omega) | (simp; omega) | simp) _ | refine Below.go ?_ hb6 | refine Below.go ?_ hb5 | refine Below.go ?_ hb4 | refine Below.go ?_ hb3 | refine Below.go ?_ hb2 | refine Below.go ?_ hb1))) m⟩
  · have HF := Lib.hid hf
    clear hf
    obtain ⟨a0, n0, k0, b0, o0, rfl, x0⟩ := ha
    obtain ⟨a1, n1, k1, b1, o1, rfl, x1⟩ := hb
    go_enter Try.func7, Try.ntmps7
    go_wp2_with fail
    refine (lossOf_ok ⟨1, 2, [512, 0]⟩ ⟨1, 2, [256, 256]⟩ _ _ _ (MatAt.mk (ints2 ((Box.new' _ _ _ 3 (by simp)).alloc _))) (MatAt.mk (ints2 (Box.new' _ _ _ 3 (by simp)))) h1).mono ?_
    rintro e w1 ⟨rfl, hb1⟩
    rw [hl1]
    have B0 := ((((Box.new w [.int .i64 ma.rows, .int .i64 ma.cols, .slice a0 n0 k0] 31).alloc _).alloc _).alloc _).keep hb1
    have B0c := B0.cell
    have B0f := B0.thawed
    have B0z := B0.lt
    have B0k := lt_add B0z
    have B1 := (((Box.new' _ (w.heap.size + 1) [.int .i64 mb.rows, .int .i64 mb.cols, .slice a1 n1 k1] 31 (by simp)).alloc _).alloc _).keep hb1
    have B1c := B1.cell
    have B1f := B1.thawed
    have B1z := B1.lt
    have B1k := lt_add B1z
    have y0 := (x0.alloc _ |>.alloc _ |>.alloc _ |>.alloc _).keep hb1
    have y1 := (x1.alloc _ |>.alloc _ |>.alloc _ |>.alloc _).keep hb1
    go_wp2_with fail
    refine (lossOf_bad ma mb _ _ _ (MatAt.mk y0) (MatAt.mk y1) HF.out).mono ?_
    rintro e w2 ⟨rfl, hb2⟩
    go_wp2
    go_ret
    exact ⟨rfl, (by repeat (first | exact Below.refl _ _ | refine Below.al ?_ _ | refine Below.drN ?_ _ | refine Below.drew ?_ | refine Below.st ?_ (by first | (dsimp only; omega) | (simp; omega) | simp) _ | refine Below.go ?_ hb2 | refine Below.go ?_ hb1))⟩

theorem own : ownKnob Try.prog.godebug = none := by kernel_rfl
theorem laidOut : laidOutB Try.prog = true := by kernel_rfl
set_option maxRecDepth 100000 in
theorem lifted (os : Os) (started : os.Started) (H : Type) (enc : TypeId × Value → H) :
    ReturnsInHanded {} Try.checked os 7 .any (Rows.lossNoughtSpec.pre6 enc Try.prog Try.f7 Rows.lossNoughtRow.domain false) (Rows.lossNoughtSpec.post enc Try.prog Try.f7 false true false false) := by
  refine returnsInHanded_of_change (C := Try.checked) own started (by kernel_rfl) Try.func7
    (ChangeSpec.witness6 (enc := enc) (C := Try.checked) false ⟨#[], #[.agg #[.int .i64 0, .int .i64 0, .slice none 0 0], .agg #[.int .i64 0, .int .i64 0, .slice none 0 0]], []⟩ 8 (by kernel_rfl) (by kernel_rfl) (by kernel_rfl) (by kernel_rfl)) ?_
  intro W base args ds gs before hval0 hW hcnd hsz
  have hval : ∀ (j : Nat) t v, Try.f7.params[j]? = some t → args[j]? = some v → Value.okWide Try.prog W .any base t v := hval0
  have hW' := hW
  obtain ⟨p, q, hA0, hV, rfl, hfz, hnd⟩ := hW
  have hA : DataW.TrodAll enc Try.prog W 0 (fun _ => true) true Try.f7.params.toList args.toList ds p := hA0
  rw [Try.params7] at hA hval
  obtain ⟨v0, vs0, d0, ds0, p0, q0, hargs, rfl, rfl, h0, r0⟩ := trodAll_cons hA
  obtain ⟨v1, vs1, d1, ds1, p1, q1, rfl, rfl, rfl, h1, r1⟩ := trodAll_cons r0
  obtain ⟨rfl, rfl, rfl⟩ := trodAll_nil r1
  obtain rfl : args = #[v0, v1] := by cases args; simp_all
  obtain ⟨rfl, rfl⟩ := trodVars_none hV
  have k0 := h0
  have lt0 : ∀ x ∈ p0, x.block < W.heap.size := by obtain ⟨m, hm⟩ := k0; exact DataW.trod_lt m _ _ _ hm
  have k1 := h1
  have lt1 : ∀ x ∈ p1, x.block < W.heap.size := by obtain ⟨m, hm⟩ := k1; exact DataW.trod_lt m _ _ _ hm
  obtain ⟨a0, w0⟩ := open_mat (hval 0 31 v0 rfl rfl) h0
  obtain ⟨a1, w1⟩ := open_mat (hval 1 31 v1 rfl rfl) h1
  clear hA0 hval0
  refine (walk a0 v0 a1 v1 W w0 w1).mono fun e W' ⟨he, bel⟩ => ?_
  subst he
  exact ⟨_, rfl, _, _, _, [], _, [], hW', trodAll_mk1 (shut_bool Try.underlying4 _), (trodAll_cons_mk (Below.trod laidOut (by kernel_rfl) (of_decide_eq_true (by kernel_rfl)) k0 bel lt0) (trodAll_cons_mk (Below.trod laidOut (by kernel_rfl) (of_decide_eq_true (by kernel_rfl)) k1 bel lt1) trodAll_mk0)), rfl, bel.frame _, fun h => by cases h⟩

theorem proved : Rows.LossNoughtSaid :=
  OpenClaim.holds_of_wide 7 Try.f7 rfl rfl rfl rfl rfl rfl rfl ⟨rfl, rfl, rfl, rfl, rfl⟩ rfl rfl rfl rfl rfl (by kernel_rfl) Try.func7 (by kernel_rfl)
    (of_decide_eq_true (by kernel_rfl)) (by unfold Func.isWrapper; first | (rw [if_pos (by decide +kernel)]; kernel_rfl) | (rw [if_neg (by decide +kernel)]; exact ⟨rfl, rfl⟩))
    (fun os started H enc _ => lifted os started H enc)
#print axioms proved

end Go.Proofs.Ytlfeijffjpjnnaa.lawLossNought
