/- LossTells: of any two matrices, how far the one is off the other and what goes back are the document's, or the fault is told: the law returns true, and the input reads as it did. No condition. -/
import Derived.Test.YtopckalgpeapnaaDoorCards
import Derived.Test.YtopckalgpeapnaaDoorTie
import Derived.Test.YtopckalgpeapnaaDoorUni
import Derived.Test.YtopckalgpeapnaaDoorLoss2
import Derived.Test.YtopckalgpeapnaaDoorOpen
import Derived.Deep.DeepHandedRow
set_option linter.unusedVariables false
set_option linter.unusedSimpArgs false
namespace Go.Proofs.YtopckalgpeapnaaDoor.lawLossTells
open Go.ChangeShapes Go.WideShapes Go.ChangeAt Go.RowKit Gal

set_option maxRecDepth 100000 in
set_option maxHeartbeats 2000000 in
theorem walk (ma : Mat) (va : Value) (mb : Mat) (vb : Value) (w : World) (ha : MatAt w va ma) (hb : MatAt w vb mb) (hh : Handle w) : Calls Tryd.prog 6 #[va, vb] w fun e w' => e = .returned (.bool true) ∧ Below w.heap.size w w' := by
  obtain ⟨a0, n0, k0, b0, o0, rfl, x0⟩ := ha
  obtain ⟨a1, n1, k1, b1, o1, rfl, x1⟩ := hb
  by_cases hf : lossFault ma mb = 0
  · have HF := Lib.hid hf
    clear hf
    go_enter Tryd.func6, Tryd.ntmps6
    go_wp2_with fail
    refine (lossOf_ok ma mb _ _ _ (MatAt.mk (x0.alloc _ |>.alloc _)) (MatAt.mk (x1.alloc _ |>.alloc _)) HF.out).mono ?_
    rintro e w1 ⟨rfl, hb1⟩
    have B0 := ((Box.new w _ 25).alloc _).keep hb1
    have B0c := B0.cell
    have B0f := B0.thawed
    have B0z := B0.lt
    have B0k := lt_add B0z
    have B1 := (Box.new' _ (w.heap.size + 1) _ 25 (by simp)).keep hb1
    have B1c := B1.cell
    have B1f := B1.thawed
    have B1z := B1.lt
    have B1k := lt_add B1z
    have hkw1 : Below w.heap.size w w1 := (by repeat (first | exact Below.refl _ _ | refine Below.al ?_ _ | refine Below.drN ?_ _ | refine Below.drew ?_ | refine Below.st ?_ (by first | (dsimp only; omega) | (simp; omega) | simp) _ | refine Below.go ?_ hb1))
    replace x0 := x0.keep hkw1
    replace x1 := x1.keep hkw1
    replace hh := hh.keep hkw1
    go_wp2_with fail
    refine (lossBack_ok ma mb _ _ _ (MatAt.mk x0) (MatAt.mk x1) HF.out).mono ?_
    rintro e w2 ⟨v, rfl, ⟨a2, n2, k2, b2, o2, rfl, hn2, x2⟩, hb2⟩
    have hkw2 : Below w1.heap.size w1 w2 := (by repeat (first | exact Below.refl _ _ | refine Below.al ?_ _ | refine Below.drN ?_ _ | refine Below.drew ?_ | refine Below.st ?_ (by first | (dsimp only; omega) | (simp; omega) | simp) _ | refine Below.go ?_ hb2))
    replace B0 := B0.keep hkw2
    replace B0c := B0.cell
    replace B0f := B0.thawed
    replace B0z := B0.lt
    replace B0k := lt_add B0z
    replace B1 := B1.keep hkw2
    replace B1c := B1.cell
    replace B1f := B1.thawed
    replace B1z := B1.lt
    replace B1k := lt_add B1z
    replace x0 := x0.keep hkw2
    replace x1 := x1.keep hkw2
    replace hh := hh.keep hkw2
    go_wp2_with fail
    refine (refLossFault_any ma mb _ _ _ (MatAt.mk (x0.alloc _)) (MatAt.mk (x1.alloc _))).mono ?_
    rw [HF.out]
    rintro e w3 ⟨rfl, hb3⟩
    have B2 := (Box.new w2 [.int .i64 (lossBack ma mb).rows, .int .i64 (lossBack ma mb).cols, .slice a2 n2 k2] 25).keep hb3
    have B2c := B2.cell
    have B2f := B2.thawed
    have B2z := B2.lt
    have B2k := lt_add B2z
    have hkw3 : Below w2.heap.size w2 w3 := (by repeat (first | exact Below.refl _ _ | refine Below.al ?_ _ | refine Below.drN ?_ _ | refine Below.drew ?_ | refine Below.st ?_ (by first | (dsimp only; omega) | (simp; omega) | simp) _ | refine Below.go ?_ hb3))
    replace B0 := B0.keep hkw3
    replace B0c := B0.cell
    replace B0f := B0.thawed
    replace B0z := B0.lt
    replace B0k := lt_add B0z
    replace B1 := B1.keep hkw3
    replace B1c := B1.cell
    replace B1f := B1.thawed
    replace B1z := B1.lt
    replace B1k := lt_add B1z
    replace x0 := x0.keep hkw3
    replace x1 := x1.keep hkw3
    replace x2 := x2.keep hkw3
    replace hh := hh.keep hkw3
    go_wp2_with fail
    refine (error_same 0 _ hh).mono ?_
    rintro e w4 ⟨rfl, hb4⟩
    have hkw4 : Below w3.heap.size w3 w4 := (by repeat (first | exact Below.refl _ _ | refine Below.al ?_ _ | refine Below.drN ?_ _ | refine Below.drew ?_ | refine Below.st ?_ (by first | (dsimp only; omega) | (simp; omega) | simp) _ | refine Below.go ?_ hb4))
    replace B0 := B0.keep hkw4
    replace B0c := B0.cell
    replace B0f := B0.thawed
    replace B0z := B0.lt
    replace B0k := lt_add B0z
    replace B1 := B1.keep hkw4
    replace B1c := B1.cell
    replace B1f := B1.thawed
    replace B1z := B1.lt
    replace B1k := lt_add B1z
    replace B2 := B2.keep hkw4
    replace B2c := B2.cell
    replace B2f := B2.thawed
    replace B2z := B2.lt
    replace B2k := lt_add B2z
    replace x0 := x0.keep hkw4
    replace x1 := x1.keep hkw4
    replace x2 := x2.keep hkw4
    replace hh := hh.keep hkw4
    go_wp2_with fail
    refine (error_same 0 _ hh).mono ?_
    rintro e w5 ⟨rfl, hb5⟩
    have hkw5 : Below w4.heap.size w4 w5 := (by repeat (first | exact Below.refl _ _ | refine Below.al ?_ _ | refine Below.drN ?_ _ | refine Below.drew ?_ | refine Below.st ?_ (by first | (dsimp only; omega) | (simp; omega) | simp) _ | refine Below.go ?_ hb5))
    replace B0 := B0.keep hkw5
    replace B0c := B0.cell
    replace B0f := B0.thawed
    replace B0z := B0.lt
    replace B0k := lt_add B0z
    replace B1 := B1.keep hkw5
    replace B1c := B1.cell
    replace B1f := B1.thawed
    replace B1z := B1.lt
    replace B1k := lt_add B1z
    replace B2 := B2.keep hkw5
    replace B2c := B2.cell
    replace B2f := B2.thawed
    replace B2z := B2.lt
    replace B2k := lt_add B2z
    replace x0 := x0.keep hkw5
    replace x1 := x1.keep hkw5
    replace x2 := x2.keep hkw5
    replace hh := hh.keep hkw5
    go_wp2_with fail
    refine (refLossOf_all ma mb _ _ _ (MatAt.mk x0) (MatAt.mk x1) HF.out).mono ?_
    rintro e w6 ⟨v6, rfl, ⟨a6, n6, k6, b6, o6, rfl, hn6, x6⟩, hb6⟩
    have hkw6 : Below w5.heap.size w5 w6 := (by repeat (first | exact Below.refl _ _ | refine Below.al ?_ _ | refine Below.drN ?_ _ | refine Below.drew ?_ | refine Below.st ?_ (by first | (dsimp only; omega) | (simp; omega) | simp) _ | refine Below.go ?_ hb6))
    replace B2 := B2.keep hkw6
    replace B2c := B2.cell
    replace B2f := B2.thawed
    replace B2z := B2.lt
    replace B2k := lt_add B2z
    replace x2 := x2.keep hkw6
    go_wp2_with fail
    refine (matrices_same (lossBack ma mb) _ _ _ (MatAt.mk (x2.alloc _)) (MatAt.mk (x6.alloc _))).mono ?_
    rintro e w7 ⟨rfl, hb7⟩
    go_wp2
    go_ret
    exact ⟨rfl, (by repeat (first | exact Below.refl _ _ | refine Below.al ?_ _ | refine Below.drN ?_ _ | refine Below.drew ?_ | refine Below.st ?_ (by first | (dsimp only; omega) | (simp; omega) | simp) _ | refine Below.go ?_ hb7 | refine Below.go ?_ hb6 | refine Below.go ?_ hb5 | refine Below.go ?_ hb4 | refine Below.go ?_ hb3 | refine Below.go ?_ hb2 | refine Below.go ?_ hb1))⟩
  · have q1 : (lossFault ma mb != 0) = true := by simp [hf]
    have HF := Lib.hid hf
    have hE : Value.iface 30 (.int .i64 (lossFault ma mb)) = errV (lossFault ma mb) := (errV_err hf).symm
    have HE := Lib.hid hE
    clear hf hE
    go_enter Tryd.func6, Tryd.ntmps6
    go_wp2_with fail
    refine (lossOf_bad ma mb _ _ _ (MatAt.mk (x0.alloc _ |>.alloc _)) (MatAt.mk (x1.alloc _ |>.alloc _)) HF.out).mono ?_
    rw [HE.out]
    rintro e w1 ⟨rfl, hb1⟩
    have B0 := ((Box.new w _ 25).alloc _).keep hb1
    have B0c := B0.cell
    have B0f := B0.thawed
    have B0z := B0.lt
    have B0k := lt_add B0z
    have B1 := (Box.new' _ (w.heap.size + 1) _ 25 (by simp)).keep hb1
    have B1c := B1.cell
    have B1f := B1.thawed
    have B1z := B1.lt
    have B1k := lt_add B1z
    have hkw1 : Below w.heap.size w w1 := (by repeat (first | exact Below.refl _ _ | refine Below.al ?_ _ | refine Below.drN ?_ _ | refine Below.drew ?_ | refine Below.st ?_ (by first | (dsimp only; omega) | (simp; omega) | simp) _ | refine Below.go ?_ hb1))
    replace x0 := x0.keep hkw1
    replace x1 := x1.keep hkw1
    replace hh := hh.keep hkw1
    go_wp2_with fail
    refine (lossBack_bad ma mb _ _ _ (MatAt.mk x0) (MatAt.mk x1) HF.out).mono ?_
    rw [HE.out]
    rintro e w2 ⟨rfl, hb2⟩
    have hkw2 : Below w1.heap.size w1 w2 := (by repeat (first | exact Below.refl _ _ | refine Below.al ?_ _ | refine Below.drN ?_ _ | refine Below.drew ?_ | refine Below.st ?_ (by first | (dsimp only; omega) | (simp; omega) | simp) _ | refine Below.go ?_ hb2))
    replace B0 := B0.keep hkw2
    replace B0c := B0.cell
    replace B0f := B0.thawed
    replace B0z := B0.lt
    replace B0k := lt_add B0z
    replace B1 := B1.keep hkw2
    replace B1c := B1.cell
    replace B1f := B1.thawed
    replace B1z := B1.lt
    replace B1k := lt_add B1z
    replace x0 := x0.keep hkw2
    replace x1 := x1.keep hkw2
    replace hh := hh.keep hkw2
    go_wp2_with fail
    refine (refLossFault_any ma mb _ _ _ (MatAt.mk (x0.alloc _)) (MatAt.mk (x1.alloc _))).mono ?_
    rintro e w3 ⟨rfl, hb3⟩
    have B2 := (Box.new w2 [.int .i64 0, .int .i64 0, .slice none 0 0] 25).keep hb3
    have B2c := B2.cell
    have B2f := B2.thawed
    have B2z := B2.lt
    have B2k := lt_add B2z
    have hkw3 : Below w2.heap.size w2 w3 := (by repeat (first | exact Below.refl _ _ | refine Below.al ?_ _ | refine Below.drN ?_ _ | refine Below.drew ?_ | refine Below.st ?_ (by first | (dsimp only; omega) | (simp; omega) | simp) _ | refine Below.go ?_ hb3))
    replace B0 := B0.keep hkw3
    replace B0c := B0.cell
    replace B0f := B0.thawed
    replace B0z := B0.lt
    replace B0k := lt_add B0z
    replace B1 := B1.keep hkw3
    replace B1c := B1.cell
    replace B1f := B1.thawed
    replace B1z := B1.lt
    replace B1k := lt_add B1z
    replace x0 := x0.keep hkw3
    replace x1 := x1.keep hkw3
    replace hh := hh.keep hkw3
    go_wp2_with fail
    refine (error_same _ _ hh).mono ?_
    rintro e w4 ⟨rfl, hb4⟩
    have hkw4 : Below w3.heap.size w3 w4 := (by repeat (first | exact Below.refl _ _ | refine Below.al ?_ _ | refine Below.drN ?_ _ | refine Below.drew ?_ | refine Below.st ?_ (by first | (dsimp only; omega) | (simp; omega) | simp) _ | refine Below.go ?_ hb4))
    replace B0 := B0.keep hkw4
    replace B0c := B0.cell
    replace B0f := B0.thawed
    replace B0z := B0.lt
    replace B0k := lt_add B0z
    replace B1 := B1.keep hkw4
    replace B1c := B1.cell
    replace B1f := B1.thawed
    replace B1z := B1.lt
    replace B1k := lt_add B1z
    replace B2 := B2.keep hkw4
    replace B2c := B2.cell
    replace B2f := B2.thawed
    replace B2z := B2.lt
    replace B2k := lt_add B2z
    replace x0 := x0.keep hkw4
    replace x1 := x1.keep hkw4
    replace hh := hh.keep hkw4
    go_wp2_with fail
    refine (error_same _ _ hh).mono ?_
    rintro e w5 ⟨rfl, hb5⟩
    have hkw5 : Below w4.heap.size w4 w5 := (by repeat (first | exact Below.refl _ _ | refine Below.al ?_ _ | refine Below.drN ?_ _ | refine Below.drew ?_ | refine Below.st ?_ (by first | (dsimp only; omega) | (simp; omega) | simp) _ | refine Below.go ?_ hb5))
    replace B0 := B0.keep hkw5
    replace B0c := B0.cell
    replace B0f := B0.thawed
    replace B0z := B0.lt
    replace B0k := lt_add B0z
    replace B1 := B1.keep hkw5
    replace B1c := B1.cell
    replace B1f := B1.thawed
    replace B1z := B1.lt
    replace B1k := lt_add B1z
    replace B2 := B2.keep hkw5
    replace B2c := B2.cell
    replace B2f := B2.thawed
    replace B2z := B2.lt
    replace B2k := lt_add B2z
    replace x0 := x0.keep hkw5
    replace x1 := x1.keep hkw5
    replace hh := hh.keep hkw5
    go_wp2_with fail
    refine (matrices_same Mat.none _ _ _ (none_at _) (none_at _)).mono ?_
    rintro e w6 ⟨rfl, hb6⟩
    go_wp2
    go_ret
    exact ⟨rfl, (by repeat (first | exact Below.refl _ _ | refine Below.al ?_ _ | refine Below.drN ?_ _ | refine Below.drew ?_ | refine Below.st ?_ (by first | (dsimp only; omega) | (simp; omega) | simp) _ | refine Below.go ?_ hb6 | refine Below.go ?_ hb5 | refine Below.go ?_ hb4 | refine Below.go ?_ hb3 | refine Below.go ?_ hb2 | refine Below.go ?_ hb1))⟩

theorem own : ownKnob Tryd.prog.godebug = none := by kernel_rfl
theorem laidOut : laidOutB Tryd.prog = true := by kernel_rfl
theorem et : Tryd.prog.globalNamed "errors.errorType" = some 0 := by kernel_rfl
theorem rt : (Tryd.prog.cutTypes.find? (·.1 == "internal/reflectlite.rtype")).map (·.2) = some 171 := by kernel_rfl
theorem oneRow : ((List.range 215).filter fun t => Tryd.prog.rowNamed t [101, 114, 114, 111, 114]) = [27] := by kernel_rfl
theorem tsize : Tryd.prog.types.size = 215 := by kernel_rfl
theorem handle_of_laid {W : World} (h : laidMetH Tryd.prog Rows.lossTellsRow.laid W) : Handle W := by
  have h' : laidMet Tryd.prog [] W ∧ handlesMet Tryd.prog Rows.lossTellsRow.laid W := h
  obtain ⟨name, u, ty, e1, e2, e3, e4, e5⟩ := h'.2 _ (List.mem_singleton.2 rfl)
  have en : name = [101, 114, 114, 111, 114] := (Option.some.inj e1).symm
  subst en
  obtain rfl := Option.some.inj (rt.symm.trans e2)
  have hm : ty ∈ (List.range 215).filter fun t => Tryd.prog.rowNamed t [101, 114, 114, 111, 114] := List.mem_filter.2 ⟨List.mem_range.2 (by rw [← tsize]; exact e3), e4⟩
  rw [oneRow] at hm
  obtain rfl := List.mem_singleton.1 hm
  have hh : typeHandle Tryd.prog 27 = .pointer (some ⟨1, 27, none⟩) := by kernel_rfl
  rw [hh] at e5
  simpa [Handle, handleV] using World.var?_cell et e5 0
noncomputable def laidWorld (os : Os) : World :=
  { World.holding Tryd.prog os ⟨#[], #[], []⟩ with heap := (World.holding Tryd.prog os ⟨#[], #[], []⟩).heap.modify 0 fun
      | .cells _ t frozen => .cells #[.iface 171 (.agg #[.pointer (some ⟨1, 27, none⟩)])] t frozen
      | o => o }
theorem laid_met (os : Os) : laidMetH Tryd.prog Rows.lossTellsRow.laid ((laidWorld os).forCall (fun _ _ => 0) ⟨#[], #[.agg #[.int .i64 0, .int .i64 0, .slice none 0 0], .agg #[.int .i64 0, .int .i64 0, .slice none 0 0]], []⟩).memory :=
  laidMetH_of_parts (laidMet_nil _ _) (by kernel_rfl)
theorem reads (os : Os) {H : Type} (enc : TypeId × Value → H) : ∃ places, DataW.whole enc Tryd.prog ((laidWorld os).forCall (fun _ _ => 0) ⟨#[], #[.agg #[.int .i64 0, .int .i64 0, .slice none 0 0], .agg #[.int .i64 0, .int .i64 0, .slice none 0 0]], []⟩).memory Tryd.f6.params.toList Rows.lossTellsSpec.vars false (#[.agg #[.int .i64 0, .int .i64 0, .slice none 0 0], .agg #[.int .i64 0, .int .i64 0, .slice none 0 0]] : Array Value).toList 8 = some ([.agg [.lit (.int .i64 0), .lit (.int .i64 0), .nil], .agg [.lit (.int .i64 0), .lit (.int .i64 0), .nil]], [], places) :=
  ⟨[], by kernel_rfl⟩
set_option maxRecDepth 100000 in
set_option maxHeartbeats 1000000 in
theorem contract (H : Type) (enc : TypeId × Value → H) (W : World) (base : Nat) (args : Array Value) (ds gs : List (DataW H)) (before : List MemPlace)
    (hval0 : ∀ (j : Nat) t v, Tryd.f6.params[j]? = some t → args[j]? = some v → Value.okWide Tryd.prog W .any base t v)
    (hW : DataW.Whole enc Tryd.prog Tryd.f6.params.toList Rows.lossTellsSpec.vars false W args.toList ds gs before) (hh : Handle W) :
    Calls Tryd.prog 6 args W fun e W' => ∃ v, e = .returned v ∧ Rows.lossTellsSpec.post enc Tryd.prog Tryd.f6 false true false false W args v W' := by
  have hval := hval0
  have hW' := hW
  obtain ⟨p, q, hA0, hV, rfl, hfz, hnd⟩ := hW
  have hA : DataW.TrodAll enc Tryd.prog W 0 (fun _ => true) true Tryd.f6.params.toList args.toList ds p := hA0
  rw [Tryd.params6] at hA hval
  obtain ⟨v0, vs0, d0, ds0, p0, q0, hargs, rfl, rfl, h0, r0⟩ := trodAll_cons hA
  obtain ⟨v1, vs1, d1, ds1, p1, q1, rfl, rfl, rfl, h1, r1⟩ := trodAll_cons r0
  obtain ⟨rfl, rfl, rfl⟩ := trodAll_nil r1
  obtain rfl : args = #[v0, v1] := by cases args; simp_all
  obtain ⟨rfl, rfl⟩ := trodVars_none hV
  have k0 := h0
  have lt0 : ∀ x ∈ p0, x.block < W.heap.size := by obtain ⟨m, hm⟩ := k0; exact DataW.trod_lt m _ _ _ hm
  have k1 := h1
  have lt1 : ∀ x ∈ p1, x.block < W.heap.size := by obtain ⟨m, hm⟩ := k1; exact DataW.trod_lt m _ _ _ hm
  obtain ⟨a0, w0⟩ := open_mat (hval 0 25 v0 rfl rfl) h0
  obtain ⟨a1, w1⟩ := open_mat (hval 1 25 v1 rfl rfl) h1
  clear hA0 hval0
  refine (walk a0 v0 a1 v1 W w0 w1 hh).mono fun e W' ⟨he, bel⟩ => ?_
  subst he
  exact ⟨_, rfl, _, _, _, [], _, [], hW', trodAll_mk1 (shut_bool Tryd.underlying4 _), (trodAll_cons_mk (Below.trod laidOut (by kernel_rfl) (of_decide_eq_true (by kernel_rfl)) k0 bel lt0) (trodAll_cons_mk (Below.trod laidOut (by kernel_rfl) (of_decide_eq_true (by kernel_rfl)) k1 bel lt1) trodAll_mk0)), rfl, bel.frame _, fun h => by cases h⟩

set_option maxRecDepth 100000 in
theorem lifted (os : Os) (started : os.Started) (H : Type) (enc : TypeId × Value → H) (F : Stop.Interp) :
    ReturnsInHanded {} Tryd.checked os 6 .any ((OpenSpec.ofChange Rows.lossTellsSpec).preRow enc Tryd.prog Tryd.f6 Rows.lossTellsRow.domain false Rows.lossTellsRow.laid) (((OpenSpec.ofChange Rows.lossTellsSpec).at F).post enc Tryd.prog Tryd.f6 false true false false) := by
  obtain ⟨places, hx⟩ := reads os enc
  refine returnsInHanded_of_row (C := Tryd.checked) (s := OpenSpec.ofChange Rows.lossTellsSpec) own started (by kernel_rfl) Tryd.func6
    (witness_row_at (enc := enc) (C := Tryd.checked) false (laidWorld os) #[.agg #[.int .i64 0, .int .i64 0, .slice none 0 0], .agg #[.int .i64 0, .int .i64 0, .slice none 0 0]] rfl (by kernel_rfl) (by kernel_rfl) (by kernel_rfl)
      (OpenSpec.preRow_of_cond 8 hx (by kernel_rfl) (fun k hk => by cases hk) (by kernel_rfl) (laid_met os))) ?_
  intro W base args ds gs before hval hW _ _ _ hL _ _
  exact contract H enc W base args ds gs before hval hW (handle_of_laid hL)

theorem said : Rows.LossTellsSaid :=
  OpenClaim.holds_of_cond 6 Tryd.f6 rfl rfl rfl rfl rfl rfl rfl ⟨rfl, rfl, rfl, rfl, rfl⟩ rfl rfl rfl rfl rfl (by kernel_rfl) Tryd.func6 (by kernel_rfl)
    (of_decide_eq_true (by kernel_rfl)) (by unfold Func.isWrapper; first | (rw [if_pos (by decide +kernel)]; kernel_rfl) | (rw [if_neg (by decide +kernel)]; exact ⟨rfl, rfl⟩))
    (fun os started H enc _ F => by rw [OpenClaim.pre_eq_preRow]; exact lifted os started H enc F)
theorem plain (f : FuncId) (fn : Func) (hf : Tryd.pinned.checked.prog.funcNamed Rows.lossTellsRow.func = some f) (hfn : Tryd.pinned.checked.prog.funcs[f]? = some fn) :
    Rows.lossTellsCard.stood.looks = Tryd.pinned.checked.prog.looks [] ∧ ∀ (j : Nat) t, fn.params[j]? = some t → Tryd.pinned.checked.prog.wantsStandIn t = false := by
  obtain rfl : f = 6 := Option.some.inj ((show Tryd.prog.funcNamed Rows.lossTellsRow.func = some 6 by kernel_rfl).symm.trans hf) |>.symm
  obtain rfl : fn = Tryd.f6 := (Option.some.inj (Tryd.func6.symm.trans hfn)).symm
  refine ⟨by kernel_rfl, fun j t ht => ?_⟩
  rw [Tryd.params6] at ht
  have hm := Array.mem_of_getElem? ht
  have hc : t = 25 ∨ t = 25 := by simpa using hm
  rcases hc with rfl | rfl
  · exact (show Tryd.prog.wantsStandIn 25 = false by kernel_rfl)
  · exact (show Tryd.prog.wantsStandIn 25 = false by kernel_rfl)
theorem proved : Rows.LossTellsCardSaid :=
  Claim7.holds_tied_plain_at .later [] _ _ _ _ said (fun _ h => by cases h) (by kernel_rfl) (fun _ h => by cases h) lossTells_row_tie rfl ⟨rfl, rfl⟩ (by kernel_rfl) rfl plain (by kernel_rfl)
#print axioms proved

end Go.Proofs.YtopckalgpeapnaaDoor.lawLossTells
