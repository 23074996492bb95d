/- NetBacks: of any net, any matrices and any matrix what goes back is the document's, or what is wrong is: the law returns true, and the input reads as it did. No condition. -/
import Derived.Test.YtikcdjibflleeaaDoorCards
import Derived.Test.YtikcdjibflleeaaDoorTie
import Derived.Test.YtikcdjibflleeaaDoorSized
import Derived.Test.YtikcdjibflleeaaDoorBack3
import Derived.Test.YtikcdjibflleeaaDoorRBack3
import Derived.Test.YtikcdjibflleeaaDoorGrads
import Derived.Test.YtikcdjibflleeaaDoorTold
import Derived.Deep.DeepHandedRow
set_option linter.unusedVariables false
set_option linter.unusedSimpArgs false
set_option linter.unusedSectionVars false
namespace Go.Proofs.YtikcdjibflleeaaDoor.lawNetBacks
open Go.ChangeShapes Go.WideShapes Go.ChangeAt Go.RowKit Gal
set_option maxRecDepth 100000
set_option maxHeartbeats 4000000
theorem walk (ls : List Lay) (v0 : Value) (ss : List Mat) (v1 : Value) (g : Mat) (v2 : Value) (w : World) (h0 : NetIn w v0 ls) (h1 : MatsIn w v1 ss) (h2 : MatIn w v2 g) (hh : Handle w) :
    Calls Tryd.prog 7 #[v0, v1, v2] w fun e w' => e = .returned (.bool true) ∧ Below w.heap.size w w' := by
  obtain ⟨⟨a0, n, k0, b0, o0, rfl, q0⟩, _, _⟩ := h0
  obtain ⟨⟨a1, n1, k1, b1, o1, rfl, q1⟩, _⟩ := h1
  obtain ⟨⟨a2, n2, k2, b2, o2, rfl, q2⟩, hg⟩ := h2
  have hgt : g.cells.length * 8 ≤ 140737488355328 := Nat.le_trans hg (by decide)
  have HGT := Lib.hid hgt
  clear hg hgt
  by_cases hf : netBackFault ls ss g = 0
  · have HF := Lib.hid hf
    clear hf
    go_enter Tryd.func7, Tryd.ntmps7
    go_wp2_with fail
    refine (netBack_any ls ss g _ _ _ _ n n1 _ _ _ _ _ _ _ _ (q0.alloc _) (q1.alloc _) (MatAt.mk (q2.alloc _)) HGT.out).mono ?_
    rintro e w1 ⟨u1, d1, rfl, hb1, hu1, _⟩
    obtain ⟨⟨a3, n3, k3, b3, o3, rfl, hn3, x3⟩, a4, k4, b4, rfl, r4⟩ := hu1 HF.out
    clear hu1 hn3
    have B5 := (Box.new w [.int .i64 g.rows, .int .i64 g.cols, .slice a2 n2 k2] 25).keep hb1
    have B5c := B5.cell
    have B5f := B5.thawed
    have B5z := B5.lt
    have B5k := lt_add B5z
    have hkw1 : Below w.heap.size w w1 := (by repeat (first | fail | (with_reducible exact Below.refl _ _) | (with_reducible refine Below.al ?_ _) | (with_reducible refine Below.drN ?_ _) | (with_reducible refine Below.drew ?_) | (with_reducible refine Below.st ?_ ?_ _; rotate_left 1; (first | (dsimp only; omega) | omega | (simp; omega) | simp)) | (with_reducible refine Below.go ?_ hb1) | exact Below.refl _ _))
    replace q0 := q0.keep hkw1
    replace q1 := q1.keep hkw1
    replace q2 := q2.keep hkw1
    replace hh := hh.keep hkw1
    have hsw1 := hkw1.size
    go_wp2_with fail
    refine (refNetBack_any ls ss g _ _ _ _ n n1 _ _ _ _ _ _ _ _ (q0.alloc _) (q1.alloc _) (MatAt.mk (q2.alloc _))).mono ?_
    rintro e w2 ⟨u2, d2, rfl, hb2, hu2, _⟩
    obtain ⟨⟨a6, n6, k6, b6, o6, rfl, x6⟩, a7, k7, b7, rfl, r7⟩ := hu2 HF.out
    clear hu2
    have B7 := (Box.new w1 [.int .i64 (bM ls ss g n n).rows, .int .i64 (bM ls ss g n n).cols, .slice a3 n3 k3] 25).keep hb2
    have B7c := B7.cell
    have B7f := B7.thawed
    have B7z := B7.lt
    have B7k := lt_add B7z
    have hkw2 : Below w1.heap.size w1 w2 := (by repeat (first | fail | (with_reducible exact Below.refl _ _) | (with_reducible refine Below.al ?_ _) | (with_reducible refine Below.drN ?_ _) | (with_reducible refine Below.drew ?_) | (with_reducible refine Below.st ?_ ?_ _; rotate_left 1; (first | (dsimp only; omega) | omega | (simp; omega) | simp)) | (with_reducible refine Below.go ?_ hb2) | exact Below.refl _ _))
    replace hh := hh.keep hkw2
    replace x3 := x3.keep hkw2
    replace r4 := r4.keep hkw2
    have hsw2 := hkw2.size
    go_wp2_with fail
    refine (error_same _ _ (hh.alloc _)).mono ?_
    rintro e w3 ⟨rfl, hb3⟩
    have BA := (Box.new w2 [.int .i64 (bM ls ss g n n).rows, .int .i64 (bM ls ss g n n).cols, .slice a6 n6 k6] 25).keep hb3
    have BAc := BA.cell
    have BAf := BA.thawed
    have BAz := BA.lt
    have BAk := lt_add BAz
    have hkw3 : Below w2.heap.size w2 w3 := (by repeat (first | fail | (with_reducible exact Below.refl _ _) | (with_reducible refine Below.al ?_ _) | (with_reducible refine Below.drN ?_ _) | (with_reducible refine Below.drew ?_) | (with_reducible refine Below.st ?_ ?_ _; rotate_left 1; (first | (dsimp only; omega) | omega | (simp; omega) | simp)) | (with_reducible refine Below.go ?_ hb3) | exact Below.refl _ _))
    replace B7 := B7.keep hkw3
    replace B7c := B7.cell
    replace B7f := B7.thawed
    replace B7z := B7.lt
    replace B7k := lt_add B7z
    replace x3 := x3.keep hkw3
    replace r4 := r4.keep hkw3
    replace x6 := x6.keep hkw3
    replace r7 := r7.keep hkw3
    have hsw3 := hkw3.size
    go_wp2_with fail
    refine (matrices_same _ _ _ _ (MatAt.mk x3) (MatAt.mk x6)).mono ?_
    rintro e w4 ⟨rfl, hb4⟩
    have hkw4 : Below w3.heap.size w3 w4 := (by repeat (first | fail | (with_reducible exact Below.refl _ _) | (with_reducible refine Below.al ?_ _) | (with_reducible refine Below.drN ?_ _) | (with_reducible refine Below.drew ?_) | (with_reducible refine Below.st ?_ ?_ _; rotate_left 1; (first | (dsimp only; omega) | omega | (simp; omega) | simp)) | (with_reducible refine Below.go ?_ hb4) | exact Below.refl _ _))
    replace r4 := r4.keep hkw4
    replace r7 := r7.keep hkw4
    have hsw4 := hkw4.size
    go_wp2_with fail
    refine (grads_same _ _ _ _ _ _ _ _ _ _ _ _ _ _ r4 r7).mono ?_
    rintro e w5 ⟨rfl, hb5⟩
    have hbe : Below w.heap.size w w5 := (by repeat (first | fail | (with_reducible exact Below.refl _ _) | (with_reducible refine Below.al ?_ _) | (with_reducible refine Below.drN ?_ _) | (with_reducible refine Below.drew ?_) | (with_reducible refine Below.st ?_ ?_ _; rotate_left 1; (first | (dsimp only; omega) | omega | (simp; omega) | simp)) | (with_reducible refine Below.go ?_ hb5) | (with_reducible refine Below.go ?_ hb4) | (with_reducible refine Below.go ?_ hb3) | (with_reducible refine Below.go ?_ hb2) | (with_reducible refine Below.go ?_ hb1) | exact Below.refl _ _))
    clear q0 q1 q2 x3 x6 r4 r7
    go_wp2
    go_ret
    exact ⟨rfl, hbe⟩
  · have HF := Lib.hid hf
    clear hf
    go_enter Tryd.func7, Tryd.ntmps7
    go_wp2_with fail
    refine (netBack_any ls ss g _ _ _ _ n n1 _ _ _ _ _ _ _ _ (q0.alloc _) (q1.alloc _) (MatAt.mk (q2.alloc _)) HGT.out).mono ?_
    rintro e w1 ⟨u1, d1, rfl, hb1, _, hu1⟩
    obtain ⟨rfl, rfl⟩ := hu1 HF.out
    clear hu1
    have B5 := (Box.new w [.int .i64 g.rows, .int .i64 g.cols, .slice a2 n2 k2] 25).keep hb1
    have B5c := B5.cell
    have B5f := B5.thawed
    have B5z := B5.lt
    have B5k := lt_add B5z
    have hkw1 : Below w.heap.size w w1 := (by repeat (first | fail | (with_reducible exact Below.refl _ _) | (with_reducible refine Below.al ?_ _) | (with_reducible refine Below.drN ?_ _) | (with_reducible refine Below.drew ?_) | (with_reducible refine Below.st ?_ ?_ _; rotate_left 1; (first | (dsimp only; omega) | omega | (simp; omega) | simp)) | (with_reducible refine Below.go ?_ hb1) | exact Below.refl _ _))
    replace q0 := q0.keep hkw1
    replace q1 := q1.keep hkw1
    replace q2 := q2.keep hkw1
    replace hh := hh.keep hkw1
    have hsw1 := hkw1.size
    go_wp2_with fail
    refine (refNetBack_any ls ss g _ _ _ _ n n1 _ _ _ _ _ _ _ _ (q0.alloc _) (q1.alloc _) (MatAt.mk (q2.alloc _))).mono ?_
    rintro e w2 ⟨u2, d2, rfl, hb2, _, hu2⟩
    obtain ⟨rfl, rfl⟩ := hu2 HF.out
    clear hu2
    have B7 := (Box.new w1 [.int .i64 0, .int .i64 0, .slice none 0 0] 25).keep hb2
    have B7c := B7.cell
    have B7f := B7.thawed
    have B7z := B7.lt
    have B7k := lt_add B7z
    have hkw2 : Below w1.heap.size w1 w2 := (by repeat (first | fail | (with_reducible exact Below.refl _ _) | (with_reducible refine Below.al ?_ _) | (with_reducible refine Below.drN ?_ _) | (with_reducible refine Below.drew ?_) | (with_reducible refine Below.st ?_ ?_ _; rotate_left 1; (first | (dsimp only; omega) | omega | (simp; omega) | simp)) | (with_reducible refine Below.go ?_ hb2) | exact Below.refl _ _))
    replace hh := hh.keep hkw2
    have hsw2 := hkw2.size
    go_wp2_with fail
    refine (error_same _ _ (hh.alloc _)).mono ?_
    rintro e w3 ⟨rfl, hb3⟩
    have BA := (Box.new w2 [.int .i64 0, .int .i64 0, .slice none 0 0] 25).keep hb3
    have BAc := BA.cell
    have BAf := BA.thawed
    have BAz := BA.lt
    have BAk := lt_add BAz
    have hkw3 : Below w2.heap.size w2 w3 := (by repeat (first | fail | (with_reducible exact Below.refl _ _) | (with_reducible refine Below.al ?_ _) | (with_reducible refine Below.drN ?_ _) | (with_reducible refine Below.drew ?_) | (with_reducible refine Below.st ?_ ?_ _; rotate_left 1; (first | (dsimp only; omega) | omega | (simp; omega) | simp)) | (with_reducible refine Below.go ?_ hb3) | exact Below.refl _ _))
    replace B7 := B7.keep hkw3
    replace B7c := B7.cell
    replace B7f := B7.thawed
    replace B7z := B7.lt
    replace B7k := lt_add B7z
    have hsw3 := hkw3.size
    go_wp2_with fail
    refine (matrices_same Mat.none _ _ _ (MatAt.mk (noInts _)) (MatAt.mk (noInts _))).mono ?_
    rintro e w4 ⟨rfl, hb4⟩
    have hkw4 : Below w3.heap.size w3 w4 := (by repeat (first | fail | (with_reducible exact Below.refl _ _) | (with_reducible refine Below.al ?_ _) | (with_reducible refine Below.drN ?_ _) | (with_reducible refine Below.drew ?_) | (with_reducible refine Below.st ?_ ?_ _; rotate_left 1; (first | (dsimp only; omega) | omega | (simp; omega) | simp)) | (with_reducible refine Below.go ?_ hb4) | exact Below.refl _ _))
    have hsw4 := hkw4.size
    go_wp2_with fail
    refine (grads_same [] anyB anyB none none 0 0 0 0 0 0 0 0 _ (RowAt.nil _ _ _) (RowAt.nil _ _ _)).mono ?_
    rintro e w5 ⟨rfl, hb5⟩
    have hbe : Below w.heap.size w w5 := (by repeat (first | fail | (with_reducible exact Below.refl _ _) | (with_reducible refine Below.al ?_ _) | (with_reducible refine Below.drN ?_ _) | (with_reducible refine Below.drew ?_) | (with_reducible refine Below.st ?_ ?_ _; rotate_left 1; (first | (dsimp only; omega) | omega | (simp; omega) | simp)) | (with_reducible refine Below.go ?_ hb5) | (with_reducible refine Below.go ?_ hb4) | (with_reducible refine Below.go ?_ hb3) | (with_reducible refine Below.go ?_ hb2) | (with_reducible refine Below.go ?_ hb1) | exact Below.refl _ _))
    clear q0 q1 q2
    go_wp2
    go_ret
    exact ⟨rfl, hbe⟩

theorem own : ownKnob Tryd.prog.godebug = none := by kernel_rfl
theorem laidOut : laidOutB Tryd.prog = true := by kernel_rfl
theorem et : Tryd.prog.globalNamed "errors.errorType" = some 0 := by kernel_rfl
theorem rt : (Tryd.prog.cutTypes.find? (·.1 == "internal/reflectlite.rtype")).map (·.2) = some 135 := by kernel_rfl
theorem oneRow : ((List.range 183).filter fun t => Tryd.prog.rowNamed t [101, 114, 114, 111, 114]) = [27] := by kernel_rfl
theorem tsize : Tryd.prog.types.size = 183 := by kernel_rfl
theorem handle_of_laid {W : World} (h : laidMetH Tryd.prog Rows.netBacksRow.laid W) : Handle W := by
  have h' : laidMet Tryd.prog [] W ∧ handlesMet Tryd.prog Rows.netBacksRow.laid W := h
  obtain ⟨name, u, ty, e1, e2, e3, e4, e5⟩ := h'.2 _ (List.mem_singleton.2 rfl)
  have en : name = [101, 114, 114, 111, 114] := (Option.some.inj e1).symm
  subst en
  obtain rfl := Option.some.inj (rt.symm.trans e2)
  have hm : ty ∈ (List.range 183).filter fun t => Tryd.prog.rowNamed t [101, 114, 114, 111, 114] := List.mem_filter.2 ⟨List.mem_range.2 (by rw [← tsize]; exact e3), e4⟩
  rw [oneRow] at hm
  obtain rfl := List.mem_singleton.1 hm
  have hh : typeHandle Tryd.prog 27 = .pointer (some ⟨1, 27, none⟩) := by kernel_rfl
  rw [hh] at e5
  simpa [Handle, handleV] using World.var?_cell et e5 0
noncomputable def laidWorld (os : Os) : World :=
  { World.holding Tryd.prog os ⟨#[], #[], []⟩ with heap := (World.holding Tryd.prog os ⟨#[], #[], []⟩).heap.modify 0 fun
      | .cells _ t frozen => .cells #[.iface 135 (.agg #[.pointer (some ⟨1, 27, none⟩)])] t frozen
      | o => o }
theorem laid_met (os : Os) : laidMetH Tryd.prog Rows.netBacksRow.laid ((laidWorld os).forCall (fun _ _ => 0) ⟨#[], #[.slice none 0 0, .slice none 0 0, .agg #[.int .i64 0, .int .i64 0, .slice none 0 0]], []⟩).memory :=
  laidMetH_of_parts (laidMet_nil _ _) (by kernel_rfl)
theorem reads (os : Os) {H : Type} (enc : TypeId × Value → H) : ∃ places, DataW.whole enc Tryd.prog ((laidWorld os).forCall (fun _ _ => 0) ⟨#[], #[.slice none 0 0, .slice none 0 0, .agg #[.int .i64 0, .int .i64 0, .slice none 0 0]], []⟩).memory Tryd.f7.params.toList Rows.netBacksSpec.vars false (#[.slice none 0 0, .slice none 0 0, .agg #[.int .i64 0, .int .i64 0, .slice none 0 0]] : Array Value).toList 8 = some ([.nil, .nil, .agg [.lit (.int .i64 0), .lit (.int .i64 0), .nil]], [], places) :=
  ⟨[], by kernel_rfl⟩
set_option maxRecDepth 100000 in
set_option maxHeartbeats 1000000 in
theorem contract (H : Type) (enc : TypeId × Value → H) (W : World) (base : Nat) (args : Array Value) (ds gs : List (DataW H)) (before : List MemPlace)
    (hval0 : ∀ (j : Nat) t v, Tryd.f7.params[j]? = some t → args[j]? = some v → Value.okWide Tryd.prog W .any base t v)
    (hW : DataW.Whole enc Tryd.prog Tryd.f7.params.toList Rows.netBacksSpec.vars false W args.toList ds gs before) (hh : Handle W) (hs0 : (DataW.weightsEach Tryd.prog (Tryd.f7.params.toList ++ (OpenSpec.ofChange Rows.netBacksSpec).bare.plain.varTypes Tryd.prog) (ds ++ gs)).all (· ≤ reachBytes) = true) :
    Calls Tryd.prog 7 args W fun e W' => ∃ v, e = .returned v ∧ Rows.netBacksSpec.post enc Tryd.prog Tryd.f7 false true false false W args v W' := by
  have hval := hval0
  have hW' := hW
  obtain ⟨p, q, hA0, hV, rfl, hfz, hnd⟩ := hW
  have hA : DataW.TrodAll enc Tryd.prog W 0 (fun _ => true) true Tryd.f7.params.toList args.toList ds p := hA0
  rw [Tryd.params7] at hA hval
  obtain ⟨v0, vs0, d0, ds0, p0, q0, hargs, rfl, rfl, h0, r0⟩ := trodAll_cons hA
  obtain ⟨v1, vs1, d1, ds1, p1, q1, rfl, rfl, rfl, h1, r1⟩ := trodAll_cons r0
  obtain ⟨v2, vs2, d2, ds2, p2, q2, rfl, rfl, rfl, h2, r2⟩ := trodAll_cons r1
  obtain ⟨rfl, rfl, rfl⟩ := trodAll_nil r2
  obtain rfl : args = #[v0, v1, v2] := by cases args; simp_all
  obtain ⟨rfl, rfl⟩ := trodVars_none hV
  have hs : Gal.Within (DataW.weightsEach Tryd.prog [35, 22, 25] [d0, d1, d2]) := hs0
  simp only [DataW.weightsEach] at hs
  have s0 := hs.left
  have s1 := hs.right.left
  have s2 := hs.right.right.left
  clear hs hs0
  have k0 := h0
  have lt0 : ∀ x ∈ p0, x.block < W.heap.size := by obtain ⟨m, hm⟩ := k0; exact DataW.trod_lt m _ _ _ hm
  have k1 := h1
  have lt1 : ∀ x ∈ p1, x.block < W.heap.size := by obtain ⟨m, hm⟩ := k1; exact DataW.trod_lt m _ _ _ hm
  have k2 := h2
  have lt2 : ∀ x ∈ p2, x.block < W.heap.size := by obtain ⟨m, hm⟩ := k2; exact DataW.trod_lt m _ _ _ hm
  obtain ⟨a0, w0⟩ := open_lLayer_sized (hval 0 35 v0 rfl rfl) h0 s0
  obtain ⟨a1, w1⟩ := open_lMatrix_sized (hval 1 22 v1 rfl rfl) h1 s1
  obtain ⟨a2, w2⟩ := open_Matrix_sized (hval 2 25 v2 rfl rfl) h2 s2
  clear hA0 hval0
  refine (walk a0 v0 a1 v1 a2 v2 W w0 w1 w2 hh).mono fun e W' ⟨he, bel⟩ => ?_
  subst he
  exact ⟨_, rfl, _, _, _, [], _, [], hW', trodAll_mk1 (shut_bool Tryd.underlying4 _), (trodAll_cons_mk (Below.trod laidOut (by kernel_rfl) (of_decide_eq_true (by kernel_rfl)) k0 bel lt0) (trodAll_cons_mk (Below.trod laidOut (by kernel_rfl) (of_decide_eq_true (by kernel_rfl)) k1 bel lt1) (trodAll_cons_mk (Below.trod laidOut (by kernel_rfl) (of_decide_eq_true (by kernel_rfl)) k2 bel lt2) trodAll_mk0))), rfl, bel.frame _, fun h => by cases h⟩

set_option maxRecDepth 100000 in
theorem lifted (os : Os) (started : os.Started) (H : Type) (enc : TypeId × Value → H) (F : Stop.Interp) :
    ReturnsInHanded {} Tryd.checked os 7 .any ((OpenSpec.ofChange Rows.netBacksSpec).preRow enc Tryd.prog Tryd.f7 Rows.netBacksRow.domain false Rows.netBacksRow.laid) (((OpenSpec.ofChange Rows.netBacksSpec).at F).post enc Tryd.prog Tryd.f7 false true false false) := by
  obtain ⟨places, hx⟩ := reads os enc
  refine returnsInHanded_of_row (C := Tryd.checked) (s := OpenSpec.ofChange Rows.netBacksSpec) own started (by kernel_rfl) Tryd.func7
    (witness_row_at (enc := enc) (C := Tryd.checked) false (laidWorld os) #[.slice none 0 0, .slice none 0 0, .agg #[.int .i64 0, .int .i64 0, .slice none 0 0]] rfl (by kernel_rfl) (by kernel_rfl) (by kernel_rfl)
      (OpenSpec.preRow_of_cond 8 hx (by kernel_rfl) (fun k hk => by cases hk) (by kernel_rfl) (laid_met os))) ?_
  intro W base args ds gs before hval hW _ _ hsz hL _ _
  exact contract H enc W base args ds gs before hval hW (handle_of_laid hL) hsz

theorem said : Rows.NetBacksSaid :=
  OpenClaim.holds_of_cond 7 Tryd.f7 rfl rfl rfl rfl rfl rfl rfl ⟨rfl, rfl, rfl, rfl, rfl⟩ rfl rfl rfl rfl rfl (by kernel_rfl) Tryd.func7 (by kernel_rfl)
    (of_decide_eq_true (by kernel_rfl)) (by unfold Func.isWrapper; first | (rw [if_pos (by decide +kernel)]; kernel_rfl) | (rw [if_neg (by decide +kernel)]; exact ⟨rfl, rfl⟩))
    (fun os started H enc _ F => by rw [OpenClaim.pre_eq_preRow]; exact lifted os started H enc F)
theorem plain (f : FuncId) (fn : Func) (hf : Tryd.pinned.checked.prog.funcNamed Rows.netBacksRow.func = some f) (hfn : Tryd.pinned.checked.prog.funcs[f]? = some fn) :
    Rows.netBacksCard.stood.looks = Tryd.pinned.checked.prog.looks [] ∧ ∀ (j : Nat) t, fn.params[j]? = some t → Tryd.pinned.checked.prog.wantsStandIn t = false := by
  obtain rfl : f = 7 := Option.some.inj ((show Tryd.prog.funcNamed Rows.netBacksRow.func = some 7 by kernel_rfl).symm.trans hf) |>.symm
  obtain rfl : fn = Tryd.f7 := (Option.some.inj (Tryd.func7.symm.trans hfn)).symm
  refine ⟨by kernel_rfl, fun j t ht => ?_⟩
  rw [Tryd.params7] at ht
  have hm := Array.mem_of_getElem? ht
  have hc : t = 35 ∨ t = 22 ∨ t = 25 := by simpa using hm
  rcases hc with rfl | rfl | rfl
  · exact (show Tryd.prog.wantsStandIn 35 = false by kernel_rfl)
  · exact (show Tryd.prog.wantsStandIn 22 = false by kernel_rfl)
  · exact (show Tryd.prog.wantsStandIn 25 = false by kernel_rfl)
theorem proved : Rows.NetBacksCardSaid :=
  Claim7.holds_tied_plain_at .later [] _ _ _ _ said (fun _ h => by cases h) (by kernel_rfl) (fun _ h => by cases h) netBacks_row_tie rfl ⟨rfl, rfl⟩ (by kernel_rfl) rfl plain (by kernel_rfl)
#print axioms proved

end Go.Proofs.YtikcdjibflleeaaDoor.lawNetBacks
