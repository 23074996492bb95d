/- StepDoes: of any net, any speed and any turn one step is the document's, or what is wrong is: the law returns true, and the input reads as it did. No condition. -/
import Derived.Test.YtikcdjibflleeaaDoorCards
import Derived.Test.YtikcdjibflleeaaDoorTie
import Derived.Test.YtikcdjibflleeaaDoorOpenL
import Derived.Test.YtikcdjibflleeaaDoorStep5
import Derived.Test.YtikcdjibflleeaaDoorRStep1
import Derived.Test.YtikcdjibflleeaaDoorRStep3
import Derived.Test.YtikcdjibflleeaaDoorSameL
import Derived.Test.YtikcdjibflleeaaDoorTold
import Derived.Deep.DeepHandedRow
set_option linter.unusedVariables false
set_option linter.unusedSimpArgs false
set_option linter.unusedSectionVars false
namespace Go.Proofs.YtikcdjibflleeaaDoor.lawStepDoes
open Go.ChangeShapes Go.WideShapes Go.ChangeAt Go.RowKit Gal
set_option maxRecDepth 100000
set_option maxHeartbeats 8000000
theorem walk (ls : List Lay) (v0 : Value) (vs : List Grd) (v1 : Value) (ds : List Grd) (v2 : Value) (r : Rts) (v3 : Value) (w : World) (h0 : LaysAt w v0 ls) (h1 : GrdsAt w v1 vs) (h2 : GrdsAt w v2 ds) (h3 : RatesAt w v3 r) (hh : Handle w) :
    Calls Tryd.prog 6 #[v0, v1, v2, v3] w fun e w' => e = .returned (.bool true) ∧ Below w.heap.size w w' := by
  obtain ⟨a0, n, k0, b0, o0, rfl, q0⟩ := h0
  obtain ⟨a1, n1, k1, b1, o1, rfl, q1⟩ := h1
  obtain ⟨a2, n2, k2, b2, o2, rfl, q2⟩ := h2
  unfold RatesAt at h3
  subst h3
  by_cases hf : stepFault ls vs ds r.ln r.kp = 0
  · have HF := Lib.hid hf
    have hg : (stepFault ls vs ds r.ln r.kp != 0) = false := by simp [hf]
    clear hf
    go_enter Tryd.func6, Tryd.ntmps6
    go_wp2_with fail
    refine (stepDo_any ls vs ds r.ln r.kp _ _ _ _ _ _ n n1 n2 _ _ _ _ _ _ _ _ _ _ (q0.alloc _) (q1.alloc _) (q2.alloc _)).mono ?_
    rintro e w1 ⟨v4, d4, rfl, hb1, hv4, hw4⟩
    have B7 := (Box.new w [.int .i64 r.ln, .int .i64 r.kp] 57).keep hb1
    have B7c := B7.cell
    have B7f := B7.thawed
    have B7z := B7.lt
    have B7k := lt_add B7z
    have hkw1 : Below w.heap.size w w1 := (by repeat (first | fail | (with_reducible exact Below.refl _ _) | (with_reducible refine Below.al ?_ _) | (with_reducible refine Below.drN ?_ _) | (with_reducible refine Below.drew ?_) | (with_reducible refine Below.st ?_ ?_ _; rotate_left 1; (first | (dsimp only; omega) | omega | (simp; omega) | simp)) | (with_reducible refine Below.go ?_ hb1) | exact Below.refl _ _))
    replace q0 := q0.keep hkw1
    replace q1 := q1.keep hkw1
    replace q2 := q2.keep hkw1
    replace hh := hh.keep hkw1
    have hsw1 := hkw1.size
    obtain ⟨a4, b4, a5, b5, rfl, rfl, r4, r5⟩ := hv4 HF.out
    clear hv4 hw4
    go_wp2_with fail
    refine (refStepFault_any ls vs ds r.ln r.kp _ _ _ _ _ _ n n1 n2 _ _ _ _ _ _ _ _ _ _ q0 q1 q2).mono ?_
    rintro e w2 ⟨rfl, hb2⟩
    have hkw2 : Below w1.heap.size w1 w2 := (by repeat (first | fail | (with_reducible exact Below.refl _ _) | (with_reducible refine Below.al ?_ _) | (with_reducible refine Below.drN ?_ _) | (with_reducible refine Below.drew ?_) | (with_reducible refine Below.st ?_ ?_ _; rotate_left 1; (first | (dsimp only; omega) | omega | (simp; omega) | simp)) | (with_reducible refine Below.go ?_ hb2) | exact Below.refl _ _))
    replace B7 := B7.keep hkw2
    replace B7c := B7.cell
    replace B7f := B7.thawed
    replace B7z := B7.lt
    replace B7k := lt_add B7z
    replace q0 := q0.keep hkw2
    replace q1 := q1.keep hkw2
    replace q2 := q2.keep hkw2
    replace hh := hh.keep hkw2
    replace r4 := r4.keep hkw2
    replace r5 := r5.keep hkw2
    have hsw2 := hkw2.size
    go_wp2_with fail
    refine (error_same _ _ hh).mono ?_
    rintro e w3 ⟨rfl, hb3⟩
    have hkw3 : Below w2.heap.size w2 w3 := (by repeat (first | fail | (with_reducible exact Below.refl _ _) | (with_reducible refine Below.al ?_ _) | (with_reducible refine Below.drN ?_ _) | (with_reducible refine Below.drew ?_) | (with_reducible refine Below.st ?_ ?_ _; rotate_left 1; (first | (dsimp only; omega) | omega | (simp; omega) | simp)) | (with_reducible refine Below.go ?_ hb3) | exact Below.refl _ _))
    replace B7 := B7.keep hkw3
    replace B7c := B7.cell
    replace B7f := B7.thawed
    replace B7z := B7.lt
    replace B7k := lt_add B7z
    replace q0 := q0.keep hkw3
    replace q1 := q1.keep hkw3
    replace q2 := q2.keep hkw3
    replace r4 := r4.keep hkw3
    replace r5 := r5.keep hkw3
    have hsw3 := hkw3.size
    go_wp2_with fail
    refine (refStepOf_any ls vs ds r.ln r.kp _ _ _ _ _ _ n n1 n2 _ _ _ _ _ _ _ _ _ _ q0 q1 q2 HF.out).mono ?_
    rintro e w4 ⟨a6, c6, b6, a7, c7, b7, rfl, hb4, r6, r7⟩
    have hkw4 : Below w3.heap.size w3 w4 := (by repeat (first | fail | (with_reducible exact Below.refl _ _) | (with_reducible refine Below.al ?_ _) | (with_reducible refine Below.drN ?_ _) | (with_reducible refine Below.drew ?_) | (with_reducible refine Below.st ?_ ?_ _; rotate_left 1; (first | (dsimp only; omega) | omega | (simp; omega) | simp)) | (with_reducible refine Below.go ?_ hb4) | exact Below.refl _ _))
    replace r4 := r4.keep hkw4
    replace r5 := r5.keep hkw4
    have hsw4 := hkw4.size
    go_wp2_with fail
    refine (layers_same _ _ _ _ _ _ _ _ _ _ _ _ _ _ r4 r6).mono ?_
    rintro e w5 ⟨rfl, hb5⟩
    have hkw5 : Below w4.heap.size w4 w5 := (by repeat (first | fail | (with_reducible exact Below.refl _ _) | (with_reducible refine Below.al ?_ _) | (with_reducible refine Below.drN ?_ _) | (with_reducible refine Below.drew ?_) | (with_reducible refine Below.st ?_ ?_ _; rotate_left 1; (first | (dsimp only; omega) | omega | (simp; omega) | simp)) | (with_reducible refine Below.go ?_ hb5) | exact Below.refl _ _))
    replace r5 := r5.keep hkw5
    replace r7 := r7.keep hkw5
    have hsw5 := hkw5.size
    go_wp2_with fail
    refine (grads_same _ _ _ _ _ _ _ _ _ _ _ _ _ _ r5 r7).mono ?_
    rintro e w6 ⟨rfl, hb6⟩
    have hbe : Below w.heap.size w w6 := (by repeat (first | fail | (with_reducible exact Below.refl _ _) | (with_reducible refine Below.al ?_ _) | (with_reducible refine Below.drN ?_ _) | (with_reducible refine Below.drew ?_) | (with_reducible refine Below.st ?_ ?_ _; rotate_left 1; (first | (dsimp only; omega) | omega | (simp; omega) | simp)) | (with_reducible refine Below.go ?_ hb6) | (with_reducible refine Below.go ?_ hb5) | (with_reducible refine Below.go ?_ hb4) | (with_reducible refine Below.go ?_ hb3) | (with_reducible refine Below.go ?_ hb2) | (with_reducible refine Below.go ?_ hb1) | exact Below.refl _ _))
    clear q0 q1 q2 r4 r5 r6 r7
    go_wp2
    go_ret
    exact ⟨rfl, hbe⟩
  · have HF := Lib.hid hf
    have hg : (stepFault ls vs ds r.ln r.kp != 0) = true := by simp [hf]
    clear hf
    go_enter Tryd.func6, Tryd.ntmps6
    go_wp2_with fail
    refine (stepDo_any ls vs ds r.ln r.kp _ _ _ _ _ _ n n1 n2 _ _ _ _ _ _ _ _ _ _ (q0.alloc _) (q1.alloc _) (q2.alloc _)).mono ?_
    rintro e w1 ⟨v4, d4, rfl, hb1, hv4, hw4⟩
    have B7 := (Box.new w [.int .i64 r.ln, .int .i64 r.kp] 57).keep hb1
    have B7c := B7.cell
    have B7f := B7.thawed
    have B7z := B7.lt
    have B7k := lt_add B7z
    have hkw1 : Below w.heap.size w w1 := (by repeat (first | fail | (with_reducible exact Below.refl _ _) | (with_reducible refine Below.al ?_ _) | (with_reducible refine Below.drN ?_ _) | (with_reducible refine Below.drew ?_) | (with_reducible refine Below.st ?_ ?_ _; rotate_left 1; (first | (dsimp only; omega) | omega | (simp; omega) | simp)) | (with_reducible refine Below.go ?_ hb1) | exact Below.refl _ _))
    replace q0 := q0.keep hkw1
    replace q1 := q1.keep hkw1
    replace q2 := q2.keep hkw1
    replace hh := hh.keep hkw1
    have hsw1 := hkw1.size
    obtain ⟨rfl, rfl⟩ := hw4 HF.out
    clear hv4 hw4
    go_wp2_with fail
    refine (refStepFault_any ls vs ds r.ln r.kp _ _ _ _ _ _ n n1 n2 _ _ _ _ _ _ _ _ _ _ q0 q1 q2).mono ?_
    rintro e w2 ⟨rfl, hb2⟩
    have hkw2 : Below w1.heap.size w1 w2 := (by repeat (first | fail | (with_reducible exact Below.refl _ _) | (with_reducible refine Below.al ?_ _) | (with_reducible refine Below.drN ?_ _) | (with_reducible refine Below.drew ?_) | (with_reducible refine Below.st ?_ ?_ _; rotate_left 1; (first | (dsimp only; omega) | omega | (simp; omega) | simp)) | (with_reducible refine Below.go ?_ hb2) | exact Below.refl _ _))
    replace B7 := B7.keep hkw2
    replace B7c := B7.cell
    replace B7f := B7.thawed
    replace B7z := B7.lt
    replace B7k := lt_add B7z
    replace hh := hh.keep hkw2
    have hsw2 := hkw2.size
    go_wp2_with fail
    refine (error_same _ _ hh).mono ?_
    rintro e w3 ⟨rfl, hb3⟩
    have hbe : Below w.heap.size w w3 := (by repeat (first | fail | (with_reducible exact Below.refl _ _) | (with_reducible refine Below.al ?_ _) | (with_reducible refine Below.drN ?_ _) | (with_reducible refine Below.drew ?_) | (with_reducible refine Below.st ?_ ?_ _; rotate_left 1; (first | (dsimp only; omega) | omega | (simp; omega) | simp)) | (with_reducible refine Below.go ?_ hb3) | (with_reducible refine Below.go ?_ hb2) | (with_reducible refine Below.go ?_ hb1) | exact Below.refl _ _))
    clear q0 q1 q2
    go_wp2
    go_ret
    exact ⟨rfl, hbe⟩

theorem own : ownKnob Tryd.prog.godebug = none := by kernel_rfl
theorem laidOut : laidOutB Tryd.prog = true := by kernel_rfl
theorem et : Tryd.prog.globalNamed "errors.errorType" = some 0 := by kernel_rfl
theorem rt : (Tryd.prog.cutTypes.find? (·.1 == "internal/reflectlite.rtype")).map (·.2) = some 135 := by kernel_rfl
theorem oneRow : ((List.range 183).filter fun t => Tryd.prog.rowNamed t [101, 114, 114, 111, 114]) = [27] := by kernel_rfl
theorem tsize : Tryd.prog.types.size = 183 := by kernel_rfl
theorem handle_of_laid {W : World} (h : laidMetH Tryd.prog Rows.stepDoesRow.laid W) : Handle W := by
  have h' : laidMet Tryd.prog [] W ∧ handlesMet Tryd.prog Rows.stepDoesRow.laid W := h
  obtain ⟨name, u, ty, e1, e2, e3, e4, e5⟩ := h'.2 _ (List.mem_singleton.2 rfl)
  have en : name = [101, 114, 114, 111, 114] := (Option.some.inj e1).symm
  subst en
  obtain rfl := Option.some.inj (rt.symm.trans e2)
  have hm : ty ∈ (List.range 183).filter fun t => Tryd.prog.rowNamed t [101, 114, 114, 111, 114] := List.mem_filter.2 ⟨List.mem_range.2 (by rw [← tsize]; exact e3), e4⟩
  rw [oneRow] at hm
  obtain rfl := List.mem_singleton.1 hm
  have hh : typeHandle Tryd.prog 27 = .pointer (some ⟨1, 27, none⟩) := by kernel_rfl
  rw [hh] at e5
  simpa [Handle, handleV] using World.var?_cell et e5 0
noncomputable def laidWorld (os : Os) : World :=
  { World.holding Tryd.prog os ⟨#[], #[], []⟩ with heap := (World.holding Tryd.prog os ⟨#[], #[], []⟩).heap.modify 0 fun
      | .cells _ t frozen => .cells #[.iface 135 (.agg #[.pointer (some ⟨1, 27, none⟩)])] t frozen
      | o => o }
theorem laid_met (os : Os) : laidMetH Tryd.prog Rows.stepDoesRow.laid ((laidWorld os).forCall (fun _ _ => 0) ⟨#[], #[.slice none 0 0, .slice none 0 0, .slice none 0 0, .agg #[.int .i64 0, .int .i64 0]], []⟩).memory :=
  laidMetH_of_parts (laidMet_nil _ _) (by kernel_rfl)
theorem reads (os : Os) {H : Type} (enc : TypeId × Value → H) : ∃ places, DataW.whole enc Tryd.prog ((laidWorld os).forCall (fun _ _ => 0) ⟨#[], #[.slice none 0 0, .slice none 0 0, .slice none 0 0, .agg #[.int .i64 0, .int .i64 0]], []⟩).memory Tryd.f6.params.toList Rows.stepDoesSpec.vars false (#[.slice none 0 0, .slice none 0 0, .slice none 0 0, .agg #[.int .i64 0, .int .i64 0]] : Array Value).toList 8 = some ([.nil, .nil, .nil, .agg [.lit (.int .i64 0), .lit (.int .i64 0)]], [], places) :=
  ⟨[], by kernel_rfl⟩
set_option maxRecDepth 100000 in
set_option maxHeartbeats 1000000 in
theorem contract (H : Type) (enc : TypeId × Value → H) (W : World) (base : Nat) (args : Array Value) (ds gs : List (DataW H)) (before : List MemPlace)
    (hval0 : ∀ (j : Nat) t v, Tryd.f6.params[j]? = some t → args[j]? = some v → Value.okWide Tryd.prog W .any base t v)
    (hW : DataW.Whole enc Tryd.prog Tryd.f6.params.toList Rows.stepDoesSpec.vars false W args.toList ds gs before) (hh : Handle W) :
    Calls Tryd.prog 6 args W fun e W' => ∃ v, e = .returned v ∧ Rows.stepDoesSpec.post enc Tryd.prog Tryd.f6 false true false false W args v W' := by
  have hval := hval0
  have hW' := hW
  obtain ⟨p, q, hA0, hV, rfl, hfz, hnd⟩ := hW
  have hA : DataW.TrodAll enc Tryd.prog W 0 (fun _ => true) true Tryd.f6.params.toList args.toList ds p := hA0
  rw [Tryd.params6] at hA hval
  obtain ⟨v0, vs0, d0, ds0, p0, q0, hargs, rfl, rfl, h0, r0⟩ := trodAll_cons hA
  obtain ⟨v1, vs1, d1, ds1, p1, q1, rfl, rfl, rfl, h1, r1⟩ := trodAll_cons r0
  obtain ⟨v2, vs2, d2, ds2, p2, q2, rfl, rfl, rfl, h2, r2⟩ := trodAll_cons r1
  obtain ⟨v3, vs3, d3, ds3, p3, q3, rfl, rfl, rfl, h3, r3⟩ := trodAll_cons r2
  obtain ⟨rfl, rfl, rfl⟩ := trodAll_nil r3
  obtain rfl : args = #[v0, v1, v2, v3] := by cases args; simp_all
  obtain ⟨rfl, rfl⟩ := trodVars_none hV
  have k0 := h0
  have lt0 : ∀ x ∈ p0, x.block < W.heap.size := by obtain ⟨m, hm⟩ := k0; exact DataW.trod_lt m _ _ _ hm
  have k1 := h1
  have lt1 : ∀ x ∈ p1, x.block < W.heap.size := by obtain ⟨m, hm⟩ := k1; exact DataW.trod_lt m _ _ _ hm
  have k2 := h2
  have lt2 : ∀ x ∈ p2, x.block < W.heap.size := by obtain ⟨m, hm⟩ := k2; exact DataW.trod_lt m _ _ _ hm
  have k3 := h3
  have lt3 : ∀ x ∈ p3, x.block < W.heap.size := by obtain ⟨m, hm⟩ := k3; exact DataW.trod_lt m _ _ _ hm
  obtain ⟨a0, w0⟩ := open_lLayer (hval 0 35 v0 rfl rfl) h0
  obtain ⟨a1, w1⟩ := open_lGrad (hval 1 36 v1 rfl rfl) h1
  obtain ⟨a2, w2⟩ := open_lGrad (hval 2 36 v2 rfl rfl) h2
  obtain ⟨a3, w3⟩ := open_Rates (hval 3 57 v3 rfl rfl) h3
  clear hA0 hval0
  refine (walk a0 v0 a1 v1 a2 v2 a3 v3 W w0 w1 w2 w3 hh).mono fun e W' ⟨he, bel⟩ => ?_
  subst he
  exact ⟨_, rfl, _, _, _, [], _, [], hW', trodAll_mk1 (shut_bool Tryd.underlying4 _), (trodAll_cons_mk (Below.trod laidOut (by kernel_rfl) (of_decide_eq_true (by kernel_rfl)) k0 bel lt0) (trodAll_cons_mk (Below.trod laidOut (by kernel_rfl) (of_decide_eq_true (by kernel_rfl)) k1 bel lt1) (trodAll_cons_mk (Below.trod laidOut (by kernel_rfl) (of_decide_eq_true (by kernel_rfl)) k2 bel lt2) (trodAll_cons_mk (Below.trod laidOut (by kernel_rfl) (of_decide_eq_true (by kernel_rfl)) k3 bel lt3) trodAll_mk0)))), rfl, bel.frame _, fun h => by cases h⟩

set_option maxRecDepth 100000 in
theorem lifted (os : Os) (started : os.Started) (H : Type) (enc : TypeId × Value → H) (F : Stop.Interp) :
    ReturnsInHanded {} Tryd.checked os 6 .any ((OpenSpec.ofChange Rows.stepDoesSpec).preRow enc Tryd.prog Tryd.f6 Rows.stepDoesRow.domain false Rows.stepDoesRow.laid) (((OpenSpec.ofChange Rows.stepDoesSpec).at F).post enc Tryd.prog Tryd.f6 false true false false) := by
  obtain ⟨places, hx⟩ := reads os enc
  refine returnsInHanded_of_row (C := Tryd.checked) (s := OpenSpec.ofChange Rows.stepDoesSpec) own started (by kernel_rfl) Tryd.func6
    (witness_row_at (enc := enc) (C := Tryd.checked) false (laidWorld os) #[.slice none 0 0, .slice none 0 0, .slice none 0 0, .agg #[.int .i64 0, .int .i64 0]] rfl (by kernel_rfl) (by kernel_rfl) (by kernel_rfl)
      (OpenSpec.preRow_of_cond 8 hx (by kernel_rfl) (fun k hk => by cases hk) (by kernel_rfl) (laid_met os))) ?_
  intro W base args ds gs before hval hW _ _ _ hL _ _
  exact contract H enc W base args ds gs before hval hW (handle_of_laid hL)

theorem said : Rows.StepDoesSaid :=
  OpenClaim.holds_of_cond 6 Tryd.f6 rfl rfl rfl rfl rfl rfl rfl ⟨rfl, rfl, rfl, rfl, rfl⟩ rfl rfl rfl rfl rfl (by kernel_rfl) Tryd.func6 (by kernel_rfl)
    (of_decide_eq_true (by kernel_rfl)) (by unfold Func.isWrapper; first | (rw [if_pos (by decide +kernel)]; kernel_rfl) | (rw [if_neg (by decide +kernel)]; exact ⟨rfl, rfl⟩))
    (fun os started H enc _ F => by rw [OpenClaim.pre_eq_preRow]; exact lifted os started H enc F)
theorem plain (f : FuncId) (fn : Func) (hf : Tryd.pinned.checked.prog.funcNamed Rows.stepDoesRow.func = some f) (hfn : Tryd.pinned.checked.prog.funcs[f]? = some fn) :
    Rows.stepDoesCard.stood.looks = Tryd.pinned.checked.prog.looks [] ∧ ∀ (j : Nat) t, fn.params[j]? = some t → Tryd.pinned.checked.prog.wantsStandIn t = false := by
  obtain rfl : f = 6 := Option.some.inj ((show Tryd.prog.funcNamed Rows.stepDoesRow.func = some 6 by kernel_rfl).symm.trans hf) |>.symm
  obtain rfl : fn = Tryd.f6 := (Option.some.inj (Tryd.func6.symm.trans hfn)).symm
  refine ⟨by kernel_rfl, fun j t ht => ?_⟩
  rw [Tryd.params6] at ht
  have hm := Array.mem_of_getElem? ht
  have hc : t = 35 ∨ t = 36 ∨ t = 36 ∨ t = 57 := by simpa using hm
  rcases hc with rfl | rfl | rfl | rfl
  · exact (show Tryd.prog.wantsStandIn 35 = false by kernel_rfl)
  · exact (show Tryd.prog.wantsStandIn 36 = false by kernel_rfl)
  · exact (show Tryd.prog.wantsStandIn 36 = false by kernel_rfl)
  · exact (show Tryd.prog.wantsStandIn 57 = false by kernel_rfl)
theorem proved : Rows.StepDoesCardSaid :=
  Claim7.holds_tied_plain_at .later [] _ _ _ _ said (fun _ h => by cases h) (by kernel_rfl) (fun _ h => by cases h) stepDoes_row_tie rfl ⟨rfl, rfl⟩ (by kernel_rfl) rfl plain (by kernel_rfl)
#print axioms proved

end Go.Proofs.YtikcdjibflleeaaDoor.lawStepDoes
