/- StepStays: without learn the net stays; without keep what was does not matter; where nothing goes back and nothing was, all stays: the law returns true, and the input reads as it did. No condition. -/
import Derived.Test.YtikcdjibflleeaaRows
import Derived.Test.YtikcdjibflleeaaStep5
import Derived.Test.YtikcdjibflleeaaSameL
import Derived.Test.YtikcdjibflleeaaGrads
import Derived.Test.YtikcdjibflleeaaUni
import Derived.Test.YtikcdjibflleeaaJoin
set_option linter.unusedVariables false
set_option linter.unusedSimpArgs false
set_option linter.unusedSectionVars false
namespace Go.Proofs.Ytikcdjibflleeaa.lawStepStays
open Go.ChangeShapes Go.WideShapes Go.ChangeAt Go.RowKit Gal
set_option maxRecDepth 100000
set_option maxHeartbeats 4000000
theorem noCells (w : World) : IntsAt w none 0 0 0 0 [] := ⟨rfl, Nat.le_refl _, Nat.zero_le _, fun h => absurd h (Nat.lt_irrefl _), fun h => absurd h (Nat.lt_irrefl _), fun i hi => absurd hi (Nat.not_lt_zero _)⟩
theorem walk (ls : List Lay) (v0 : Value) (vs : List Grd) (v1 : Value) (ds : List Grd) (v2 : Value) (r : Rts) (v3 : Value) (w : World) (h0 : LaysAt w v0 ls) (h1 : GrdsAt w v1 vs) (h2 : GrdsAt w v2 ds) (h3 : RatesAt w v3 r) :
    Calls Try.prog 3 #[v0, v1, v2, v3] w fun e w' => e = .returned (.bool true) ∧ Below w.heap.size w w' := by
  obtain ⟨a0, n, k0, b0, o0, rfl, r0⟩ := h0
  obtain ⟨a1, n1, k1, b1, o1, rfl, r1⟩ := h1
  obtain ⟨a2, n2, k2, b2, o2, rfl, r2⟩ := h2
  unfold RatesAt at h3
  subst h3
  have HL := Lib.hid r0.len
  go_enter Try.func3, Try.ntmps3
  go_wp2_with fail
  obtain ⟨w0, hw0, B7, rF, rG, q0, q1, q2, hb0⟩ : ∃ w0, (((((w.alloc (.cells #[.int .i64 r.ln, .int .i64 r.kp] 25)).alloc (.cells #[.int .i64 256] 3)).alloc (.cells #[.int .i64 3, .int .i64 1, .int .i64 1, .slice (some ⟨w.heap.size + 1, 0, none⟩) 1 1, .int .i64 0, .int .i64 0, .slice none 0 0] 30)).alloc (.cells #[.int .i64 512] 3)).alloc (.cells #[.int .i64 1, .int .i64 1, .slice (some ⟨w.heap.size + 1 + 1 + 1, 0, none⟩) 1 1, .int .i64 0, .int .i64 0, .slice none 0 0] 32)) = w0 ∧ Box w0 w.heap.size [.int .i64 r.ln, .int .i64 r.kp] 25 ∧ RowAt Form.lay w0 anyB (some ⟨w.heap.size + 1 + 1, 0, none⟩) 1 1 (w.heap.size + 1 + 1) 0 [oneL] ∧ RowAt Form.grd w0 anyB (some ⟨w.heap.size + 1 + 1 + 1 + 1, 0, none⟩) 1 1 (w.heap.size + 1 + 1 + 1 + 1) 0 [factG] ∧
      RowAt Form.lay w0 anyB a0 n k0 b0 o0 ls ∧ RowAt Form.grd w0 anyB a1 n1 k1 b1 o1 vs ∧ RowAt Form.grd w0 anyB a2 n2 k2 b2 o2 ds ∧ Below w.heap.size w w0 := by
    refine ⟨_, rfl, (by repeat (first | fail | (with_reducible refine (Box.new' _ w.heap.size _ _ ?_); (simp; done)) | (with_reducible refine Box.alloc ?_ _) | (with_reducible refine Box.drewN ?_ _) | (with_reducible refine Box.drew ?_) | (with_reducible refine Box.far ?_ ?_ _; rotate_left 1; (first | (dsimp only; omega) | omega | (simp; omega) | simp)))), ?_, ?_, r0.keep (by repeat (first | fail | (with_reducible exact Below.refl _ _) | (with_reducible refine Below.al ?_ _) | (with_reducible refine Below.drN ?_ _) | (with_reducible refine Below.drew ?_) | (with_reducible refine Below.st ?_ ?_ _; rotate_left 1; (first | (dsimp only; omega) | omega | (simp; omega) | simp)) | exact Below.refl _ _)), r1.keep (by repeat (first | fail | (with_reducible exact Below.refl _ _) | (with_reducible refine Below.al ?_ _) | (with_reducible refine Below.drN ?_ _) | (with_reducible refine Below.drew ?_) | (with_reducible refine Below.st ?_ ?_ _; rotate_left 1; (first | (dsimp only; omega) | omega | (simp; omega) | simp)) | exact Below.refl _ _)), r2.keep (by repeat (first | fail | (with_reducible exact Below.refl _ _) | (with_reducible refine Below.al ?_ _) | (with_reducible refine Below.drN ?_ _) | (with_reducible refine Below.drew ?_) | (with_reducible refine Below.st ?_ ?_ _; rotate_left 1; (first | (dsimp only; omega) | omega | (simp; omega) | simp)) | exact Below.refl _ _)), (by repeat (first | fail | (with_reducible exact Below.refl _ _) | (with_reducible refine Below.al ?_ _) | (with_reducible refine Below.drN ?_ _) | (with_reducible refine Below.drew ?_) | (with_reducible refine Below.st ?_ ?_ _; rotate_left 1; (first | (dsimp only; omega) | omega | (simp; omega) | simp)) | exact Below.refl _ _))⟩
    · exact Gal.row_one (T := 30) (show Box _ (w.heap.size + 1 + 1) [.int .i64 3, .int .i64 1, .int .i64 1, .slice (some ⟨w.heap.size + 1, 0, none⟩) 1 1, .int .i64 0, .int .i64 0, .slice none 0 0] 30 from (by repeat (first | fail | (with_reducible refine (Box.new' _ (w.heap.size + 1 + 1) _ _ ?_); (simp; done)) | (with_reducible refine Box.alloc ?_ _) | (with_reducible refine Box.drewN ?_ _) | (with_reducible refine Box.drew ?_) | (with_reducible refine Box.far ?_ ?_ _; rotate_left 1; (first | (dsimp only; omega) | omega | (simp; omega) | simp)))))
        (reads_lay (l := oneL) (b := w.heap.size + 1) (o := 0) (b' := 0) (o' := 0) (fun _ => trivial) (ints_box2 (xs := [256]) (t := 3) (show Box _ (w.heap.size + 1) [.int .i64 256] 3 from (by repeat (first | fail | (with_reducible refine (Box.new' _ (w.heap.size + 1) _ _ ?_); (simp; done)) | (with_reducible refine Box.alloc ?_ _) | (with_reducible refine Box.drewN ?_ _) | (with_reducible refine Box.drew ?_) | (with_reducible refine Box.far ?_ ?_ _; rotate_left 1; (first | (dsimp only; omega) | omega | (simp; omega) | simp))))) (by decide)) (fun _ => trivial) (noCells _)) trivial
    · exact Gal.row_one (T := 32) (show Box _ (w.heap.size + 1 + 1 + 1 + 1) [.int .i64 1, .int .i64 1, .slice (some ⟨w.heap.size + 1 + 1 + 1, 0, none⟩) 1 1, .int .i64 0, .int .i64 0, .slice none 0 0] 32 from (by repeat (first | fail | (with_reducible refine (Box.new' _ (w.heap.size + 1 + 1 + 1 + 1) _ _ ?_); (simp; done)) | (with_reducible refine Box.alloc ?_ _) | (with_reducible refine Box.drewN ?_ _) | (with_reducible refine Box.drew ?_) | (with_reducible refine Box.far ?_ ?_ _; rotate_left 1; (first | (dsimp only; omega) | omega | (simp; omega) | simp)))))
        (reads_grd (d := factG) (b := w.heap.size + 1 + 1 + 1) (o := 0) (b' := 0) (o' := 0) (fun _ => trivial) (ints_box2 (xs := [512]) (t := 3) (show Box _ (w.heap.size + 1 + 1 + 1) [.int .i64 512] 3 from (by repeat (first | fail | (with_reducible refine (Box.new' _ (w.heap.size + 1 + 1 + 1) _ _ ?_); (simp; done)) | (with_reducible refine Box.alloc ?_ _) | (with_reducible refine Box.drewN ?_ _) | (with_reducible refine Box.drew ?_) | (with_reducible refine Box.far ?_ ?_ _; rotate_left 1; (first | (dsimp only; omega) | omega | (simp; omega) | simp))))) (by decide)) (fun _ => trivial) (noCells _)) trivial
  rw [hw0]
  clear hw0 r0 r1 r2
  refine (netZero_any [oneL] anyB _ 1 1 _ 0 w0 rF (fun i hi => (by omega : i = 0) ▸ ⟨by decide, by decide⟩) (by decide)).mono ?_
  rintro e w1 ⟨az, kz, bz, rfl, hb1, rz⟩
  replace rF := rF.keep hb1
  replace rG := rG.keep hb1
  replace q0 := q0.keep hb1
  replace q1 := q1.keep hb1
  replace q2 := q2.keep hb1
  have B7 := B7.keep hb1
  have B7c := B7.cell
  have B7f := B7.thawed
  have B7z := B7.lt
  have B7k := lt_add B7z
  go_wp2_with fail
  refine (stepDo_is [oneL] (zeroNet [oneL]) [factG] 128 0 _ _ _ _ _ _ 1 1 1 _ _ _ _ _ _ _ _ _ w1 rF rz rG _ _ step_fact step_fact_is rfl).mono ?_
  rintro e w2 ⟨am, bm, ag, bg, rfl, hb2, rm, -⟩
  replace q0 := q0.keep hb2
  replace q1 := q1.keep hb2
  replace q2 := q2.keep hb2
  have B7 := B7.keep hb2
  have B7c := B7.cell
  have B7f := B7.thawed
  have B7z := B7.lt
  have B7k := lt_add B7z
  obtain ⟨p1, m1, p3, p4, p5, p6, p7, p8, p9, p10, -, -, -, c2, -, -, -, x1, -⟩ := lay_cells rm (i := 0) (by decide)
  obtain rfl := rm.ptr (by decide)
  have y1 : IntsAt w2 p1 m1 p3 p4 p5 [0] := x1
  obtain rfl : m1 = 1 := y1.len.symm
  obtain rfl := y1.ptr (by decide)
  have e1 : w2.cell? ⟨bm, 3, none⟩ = some (.slice (some ⟨p4, p5, none⟩) 1 p3) := by simpa using c2
  have e2 : w2.cell? ⟨p4, p5, none⟩ = some (.int .i64 0) := by simpa [ix] using y1.cell 0 (by decide)
  clear c2 x1 y1 rF rG rz rm
  have hbw : Below w.heap.size w w2 := (by repeat (first | fail | (with_reducible exact Below.refl _ _) | (with_reducible exact hb0) | (with_reducible refine Below.al ?_ _) | (with_reducible refine Below.drN ?_ _) | (with_reducible refine Below.drew ?_) | (with_reducible refine Below.st ?_ ?_ _; rotate_left 1; (first | (dsimp only; omega) | omega | (simp; omega) | simp)) | (with_reducible refine Below.go ?_ hb2) | (with_reducible refine Below.go ?_ hb1) | exact Below.refl _ _ | exact hb0))
  clear hb2 hb1 hb0
  go_wp2_with fail
  by_cases hf : stepFault ls vs ds r.ln r.kp = 0
  · have HF := Lib.hid hf
    clear hf e1 e2
    refine (stepDo_is ls vs ds r.ln r.kp _ _ _ _ _ _ n n1 n2 _ _ _ _ _ _ _ _ _ w2 q0 q1 q2 _ _ HF.out rfl rfl).mono ?_
    rintro e w3 ⟨g1, g2, g3, g4, rfl, hb3, -, -⟩
    replace q0 := q0.keep hb3
    replace q1 := q1.keep hb3
    replace q2 := q2.keep hb3
    have B7 := B7.keep hb3
    have B7c := B7.cell
    have B7f := B7.thawed
    have B7z := B7.lt
    have B7k := lt_add B7z
    go_wp2_with fail
    refine (stepDo_is ls vs ds 0 r.kp _ _ _ _ _ _ n n1 n2 _ _ _ _ _ _ _ _ _ w3 q0 q1 q2 _ _ (stays_learn HF.out).1 (stays_learn HF.out).2 rfl).mono ?_
    rintro e w4 ⟨g5, g6, g7, g8, rfl, hb4, rm, -⟩
    replace q0 := q0.keep hb4
    replace q1 := q1.keep hb4
    replace q2 := q2.keep hb4
    have B7 := B7.keep hb4
    have B7c := B7.cell
    have B7f := B7.thawed
    have B7z := B7.lt
    have B7k := lt_add B7z
    go_wp2_with fail
    refine (layers_same ls _ _ _ _ _ _ _ _ _ _ _ _ w4 rm q0).mono ?_
    rintro e w5 ⟨rfl, hb5⟩
    replace q0 := q0.keep hb5
    replace q1 := q1.keep hb5
    replace q2 := q2.keep hb5
    have B7 := B7.keep hb5
    have B7c := B7.cell
    have B7f := B7.thawed
    have B7z := B7.lt
    have B7k := lt_add B7z
    clear rm
    go_wp2_with fail
    refine (netZero_any ls anyB _ n _ _ _ w5 q0 (fun i hi => by
      obtain ⟨_, _, _, _, h5⟩ := stepFault_ok HF.out
      obtain ⟨u1, u2, _⟩ := fits_lens (h5 i (by rw [HL.out]; exact hi))
      omega) (by obtain ⟨_, u1, _⟩ := stepFault_ok HF.out; rw [HL.out] at u1; omega)).mono ?_
    rintro e w6 ⟨g9, kz, g10, rfl, hb6, rz⟩
    replace q0 := q0.keep hb6
    replace q1 := q1.keep hb6
    replace q2 := q2.keep hb6
    have B7 := B7.keep hb6
    have B7c := B7.cell
    have B7f := B7.thawed
    have B7z := B7.lt
    have B7k := lt_add B7z
    have hbx : Below w.heap.size w w6 := (by repeat (first | fail | (with_reducible exact Below.refl _ _) | (with_reducible exact hbw) | (with_reducible refine Below.al ?_ _) | (with_reducible refine Below.drN ?_ _) | (with_reducible refine Below.drew ?_) | (with_reducible refine Below.st ?_ ?_ _; rotate_left 1; (first | (dsimp only; omega) | omega | (simp; omega) | simp)) | (with_reducible refine Below.go ?_ hb6) | (with_reducible refine Below.go ?_ hb5) | (with_reducible refine Below.go ?_ hb4) | (with_reducible refine Below.go ?_ hb3) | exact Below.refl _ _ | exact hbw))
    clear hb3 hb4 hb5 hb6 hbw
    go_wp2_with fail
    refine (stepDo_is ls vs ds r.ln 0 _ _ _ _ _ _ n n1 n2 _ _ _ _ _ _ _ _ _ w6 q0 q1 q2 _ _ (stays_first HF.out).1 rfl rfl).mono ?_
    rintro e w7 ⟨g11, g12, g13, g14, rfl, hb7, ra, rx⟩
    replace q0 := q0.keep hb7
    replace q2 := q2.keep hb7
    replace rz := rz.keep hb7
    have B7 := B7.keep hb7
    have B7c := B7.cell
    have B7f := B7.thawed
    have B7z := B7.lt
    have B7k := lt_add B7z
    clear q1
    go_wp2_with fail
    refine (stepDo_is ls (zeroNet ls) ds r.ln 0 _ _ _ _ _ _ n n n2 _ _ _ _ _ _ _ _ _ w7 q0 rz q2 _ _ (stays_first HF.out).2.1 (stays_first HF.out).2.2.1 (stays_first HF.out).2.2.2).mono ?_
    rintro e w8 ⟨g15, g16, g17, g18, rfl, hb8, rb, ry⟩
    replace q0 := q0.keep hb8
    replace rz := rz.keep hb8
    replace ra := ra.keep hb8
    replace rx := rx.keep hb8
    have B7 := B7.keep hb8
    have B7c := B7.cell
    have B7f := B7.thawed
    have B7z := B7.lt
    have B7k := lt_add B7z
    clear q2
    go_wp2_with fail
    refine (layers_same _ _ _ _ _ _ _ _ _ _ _ _ _ w8 ra rb).mono ?_
    rintro e w9 ⟨rfl, hb9⟩
    replace q0 := q0.keep hb9
    replace rz := rz.keep hb9
    replace rx := rx.keep hb9
    replace ry := ry.keep hb9
    have B7 := B7.keep hb9
    have B7c := B7.cell
    have B7f := B7.thawed
    have B7z := B7.lt
    have B7k := lt_add B7z
    clear ra rb
    go_wp2_with fail
    refine (grads_same _ _ _ _ _ _ _ _ _ _ _ _ _ w9 rx ry).mono ?_
    rintro e wa ⟨rfl, hba⟩
    replace q0 := q0.keep hba
    replace rz := rz.keep hba
    have B7 := B7.keep hba
    have B7c := B7.cell
    have B7f := B7.thawed
    have B7z := B7.lt
    have B7k := lt_add B7z
    clear rx ry
    have hby : Below w.heap.size w wa := (by repeat (first | fail | (with_reducible exact Below.refl _ _) | (with_reducible exact hbx) | (with_reducible refine Below.al ?_ _) | (with_reducible refine Below.drN ?_ _) | (with_reducible refine Below.drew ?_) | (with_reducible refine Below.st ?_ ?_ _; rotate_left 1; (first | (dsimp only; omega) | omega | (simp; omega) | simp)) | (with_reducible refine Below.go ?_ hba) | (with_reducible refine Below.go ?_ hb9) | (with_reducible refine Below.go ?_ hb8) | (with_reducible refine Below.go ?_ hb7) | exact Below.refl _ _ | exact hbx))
    clear hb7 hb8 hb9 hba hbx
    go_wp2_with fail
    refine (stepDo_is ls (zeroNet ls) (zeroNet ls) r.ln r.kp _ _ _ _ _ _ n n n _ _ _ _ _ _ _ _ _ wa q0 rz rz _ _ (stays_rest HF.out).1 (stays_rest HF.out).2.1 (stays_rest HF.out).2.2).mono ?_
    rintro e wb ⟨g19, g20, g21, g22, rfl, hbb, ra, rx⟩
    replace q0 := q0.keep hbb
    replace rz := rz.keep hbb
    go_wp2_with fail
    refine (layers_same _ _ _ _ _ _ _ _ _ _ _ _ _ wb ra q0).mono ?_
    rintro e wd ⟨rfl, hbd⟩
    replace rz := rz.keep hbd
    replace rx := rx.keep hbd
    go_wp2_with fail
    refine (grads_same _ _ _ _ _ _ _ _ _ _ _ _ _ wd rx rz).mono ?_
    rintro e we ⟨rfl, hbe⟩
    have hbz : Below w.heap.size w we := (by repeat (first | fail | (with_reducible exact Below.refl _ _) | (with_reducible exact hby) | (with_reducible refine Below.al ?_ _) | (with_reducible refine Below.drN ?_ _) | (with_reducible refine Below.drew ?_) | (with_reducible refine Below.st ?_ ?_ _; rotate_left 1; (first | (dsimp only; omega) | omega | (simp; omega) | simp)) | (with_reducible refine Below.go ?_ hbe) | (with_reducible refine Below.go ?_ hbd) | (with_reducible refine Below.go ?_ hbb) | exact Below.refl _ _ | exact hby))
    clear q0 rz rx ra
    go_wp2
    go_ret
    exact ⟨rfl, hbz⟩
  · have HF := Lib.hid hf
    clear hf e1 e2
    refine (stepDo_not ls vs ds r.ln r.kp _ _ _ _ _ _ n n1 n2 _ _ _ _ _ _ _ _ _ w2 q0 q1 q2 HF.out).mono ?_
    rintro e w3 ⟨rfl, hb3⟩
    have hbz : Below w.heap.size w w3 := (by repeat (first | fail | (with_reducible exact Below.refl _ _) | (with_reducible exact hbw) | (with_reducible refine Below.al ?_ _) | (with_reducible refine Below.drN ?_ _) | (with_reducible refine Below.drew ?_) | (with_reducible refine Below.st ?_ ?_ _; rotate_left 1; (first | (dsimp only; omega) | omega | (simp; omega) | simp)) | (with_reducible refine Below.go ?_ hb3) | exact Below.refl _ _ | exact hbw))
    clear q0 q1 q2
    go_wp2
    go_ret
    exact ⟨rfl, hbz⟩

theorem own : ownKnob Try.prog.godebug = none := by kernel_rfl
theorem laidOut : laidOutB Try.prog = true := by kernel_rfl
set_option maxRecDepth 100000 in
theorem lifted (os : Os) (started : os.Started) (H : Type) (enc : TypeId × Value → H) :
    ReturnsInHanded {} Try.checked os 3 .any (Rows.stepStaysSpec.pre6 enc Try.prog Try.f3 Rows.stepStaysRow.domain false) (Rows.stepStaysSpec.post enc Try.prog Try.f3 false true false false) := by
  refine returnsInHanded_of_change (C := Try.checked) own started (by kernel_rfl) Try.func3
    (ChangeSpec.witness6 (enc := enc) (C := Try.checked) false ⟨#[], #[.slice none 0 0, .slice none 0 0, .slice none 0 0, .agg #[.int .i64 0, .int .i64 0]], []⟩ 8 (by kernel_rfl) (by kernel_rfl) (by kernel_rfl) (by kernel_rfl)) ?_
  intro W base args ds gs before hval0 hW hcnd hsz
  have hval : ∀ (j : Nat) t v, Try.f3.params[j]? = some t → args[j]? = some v → Value.okWide Try.prog W .any base t v := hval0
  have hW' := hW
  obtain ⟨p, q, hA0, hV, rfl, hfz, hnd⟩ := hW
  have hA : DataW.TrodAll enc Try.prog W 0 (fun _ => true) true Try.f3.params.toList args.toList ds p := hA0
  rw [Try.params3] at hA hval
  obtain ⟨v0, vs0, d0, ds0, p0, q0, hargs, rfl, rfl, h0, r0⟩ := trodAll_cons hA
  obtain ⟨v1, vs1, d1, ds1, p1, q1, rfl, rfl, rfl, h1, r1⟩ := trodAll_cons r0
  obtain ⟨v2, vs2, d2, ds2, p2, q2, rfl, rfl, rfl, h2, r2⟩ := trodAll_cons r1
  obtain ⟨v3, vs3, d3, ds3, p3, q3, rfl, rfl, rfl, h3, r3⟩ := trodAll_cons r2
  obtain ⟨rfl, rfl, rfl⟩ := trodAll_nil r3
  obtain rfl : args = #[v0, v1, v2, v3] := by cases args; simp_all
  obtain ⟨rfl, rfl⟩ := trodVars_none hV
  have k0 := h0
  have lt0 : ∀ x ∈ p0, x.block < W.heap.size := by obtain ⟨m, hm⟩ := k0; exact DataW.trod_lt m _ _ _ hm
  have k1 := h1
  have lt1 : ∀ x ∈ p1, x.block < W.heap.size := by obtain ⟨m, hm⟩ := k1; exact DataW.trod_lt m _ _ _ hm
  have k2 := h2
  have lt2 : ∀ x ∈ p2, x.block < W.heap.size := by obtain ⟨m, hm⟩ := k2; exact DataW.trod_lt m _ _ _ hm
  have k3 := h3
  have lt3 : ∀ x ∈ p3, x.block < W.heap.size := by obtain ⟨m, hm⟩ := k3; exact DataW.trod_lt m _ _ _ hm
  obtain ⟨a0, w0⟩ := open_lLayer (hval 0 22 v0 rfl rfl) h0
  obtain ⟨a1, w1⟩ := open_lGrad (hval 1 23 v1 rfl rfl) h1
  obtain ⟨a2, w2⟩ := open_lGrad (hval 2 23 v2 rfl rfl) h2
  obtain ⟨a3, w3⟩ := open_Rates (hval 3 25 v3 rfl rfl) h3
  clear hA0 hval0
  refine (walk a0 v0 a1 v1 a2 v2 a3 v3 W w0 w1 w2 w3).mono fun e W' ⟨he, bel⟩ => ?_
  subst he
  exact ⟨_, rfl, _, _, _, [], _, [], hW', trodAll_mk1 (shut_bool Try.underlying4 _), (trodAll_cons_mk (Below.trod laidOut (by kernel_rfl) (of_decide_eq_true (by kernel_rfl)) k0 bel lt0) (trodAll_cons_mk (Below.trod laidOut (by kernel_rfl) (of_decide_eq_true (by kernel_rfl)) k1 bel lt1) (trodAll_cons_mk (Below.trod laidOut (by kernel_rfl) (of_decide_eq_true (by kernel_rfl)) k2 bel lt2) (trodAll_cons_mk (Below.trod laidOut (by kernel_rfl) (of_decide_eq_true (by kernel_rfl)) k3 bel lt3) trodAll_mk0)))), rfl, bel.frame _, fun h => by cases h⟩

theorem proved : Rows.StepStaysSaid :=
  OpenClaim.holds_of_wide 3 Try.f3 rfl rfl rfl rfl rfl rfl rfl ⟨rfl, rfl, rfl, rfl, rfl⟩ rfl rfl rfl rfl rfl (by kernel_rfl) Try.func3 (by kernel_rfl)
    (of_decide_eq_true (by kernel_rfl)) (by unfold Func.isWrapper; first | (rw [if_pos (by decide +kernel)]; kernel_rfl) | (rw [if_neg (by decide +kernel)]; exact ⟨rfl, rfl⟩))
    (fun os started H enc _ => lifted os started H enc)
#print axioms proved

end Go.Proofs.Ytikcdjibflleeaa.lawStepStays
