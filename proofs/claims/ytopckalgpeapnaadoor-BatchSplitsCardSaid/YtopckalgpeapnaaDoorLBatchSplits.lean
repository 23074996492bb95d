/- BatchSplits: of any batch and any numbers, what is wrong, how many rows each part has and the parts are the document's: the law returns true, and the input reads as it did. No condition. -/
import Derived.Test.YtopckalgpeapnaaDoorCards
import Derived.Test.YtopckalgpeapnaaDoorTie
import Derived.Test.YtopckalgpeapnaaDoorBatch4
import Derived.Test.YtopckalgpeapnaaDoorRBatch2
import Derived.Test.YtopckalgpeapnaaDoorUni
import Derived.Deep.DeepHandedRow
set_option linter.unusedVariables false
set_option linter.unusedSimpArgs false
set_option linter.unusedSectionVars false
namespace Go.Proofs.YtopckalgpeapnaaDoor.lawBatchSplits
open Go.ChangeShapes Go.WideShapes Go.ChangeAt Go.RowKit Gal
set_option maxRecDepth 100000
set_option maxHeartbeats 8000000
/-- both tell how many rows each part has -/
theorem sizes_any (r p : Int) (w : World) : Calls Tryd.prog 40 #[.int .i64 r, .int .i64 p] w fun e w' => ∃ a n k b, e = .returned (.tuple #[.slice a n k, errV (sizesFault r p)]) ∧ Below w.heap.size w w' ∧
    IntsAt w' a n k b 0 (if sizesFault r p = 0 then ints (sizesOf r.toNat p.toNat) else []) := by
  by_cases hf : sizesFault r p = 0
  · obtain ⟨g1, g2, g3, g4, g5⟩ := sizesFault_ok hf
    rw [errV_nil hf, if_pos hf]
    obtain ⟨R, rfl⟩ := Int.eq_ofNat_of_zero_le (show 0 ≤ r by omega)
    obtain ⟨P, rfl⟩ := Int.eq_ofNat_of_zero_le (show 0 ≤ p by omega)
    simp only [Int.toNat_natCast]
    refine (batchSizes_ok R P w (by omega) (by omega) (by omega) (by omega)).mono ?_
    rintro e w' ⟨v, rfl, hown, hb⟩
    obtain ⟨a, k, b, rfl, _, x⟩ := IntsAt.of_own hown
    exact ⟨a, P, k, b, rfl, hb, x⟩
  · rw [errV_err hf, if_neg hf]
    refine (batchSizes_bad r p w hf).mono ?_
    rintro e w' ⟨rfl, rfl⟩
    exact ⟨none, 0, 0, 0, rfl, Below.refl _ _, noInts _⟩
theorem refSizes_any (r p : Int) (w : World) : Calls Tryd.prog 41 #[.int .i64 r, .int .i64 p] w fun e w' => ∃ a n k b, e = .returned (.tuple #[.slice a n k, .int .i64 (sizesFault r p)]) ∧ Below w.heap.size w w' ∧
    IntsAt w' a n k b 0 (if sizesFault r p = 0 then ints (sizesOf r.toNat p.toNat) else []) := by
  by_cases hf : sizesFault r p = 0
  · obtain ⟨g1, g2, g3, g4, g5⟩ := sizesFault_ok hf
    rw [hf, if_pos rfl]
    obtain ⟨R, rfl⟩ := Int.eq_ofNat_of_zero_le (show 0 ≤ r by omega)
    obtain ⟨P, rfl⟩ := Int.eq_ofNat_of_zero_le (show 0 ≤ p by omega)
    simp only [Int.toNat_natCast]
    refine (refSizes_ok R P w (by omega) (by omega) (by omega) (by omega)).mono ?_
    rintro e w' ⟨b, rfl, _, B, hb⟩
    have hl : (ints (sizesOf R P)).length = P := by rw [ints_length]; exact sizesOf_length P R
    have x := ints_box B (by rw [hl]; unfold maxLen; omega)
    rw [hl] at x
    exact ⟨_, P, P, b, rfl, hb, x⟩
  · rw [if_neg hf]
    refine (refSizes_bad r p w hf).mono ?_
    rintro e w' ⟨rfl, rfl⟩
    exact ⟨none, 0, 0, 0, rfl, Below.refl _ _, noInts _⟩
theorem walk (d : Bat) (v : Value) (p r : Int) (w : World) (h : BatAt w v d) (hp : (Lit.int .i64 p).wf = true) (hr : (Lit.int .i64 r).wf = true) (hh : Handle w) :
    Calls Tryd.prog 8 #[v, .int .i64 p, .int .i64 r] w fun e w' => e = .returned (.bool true) ∧ Below w.heap.size w w' := by
  obtain ⟨a, n, k, b, o, a', n', k', b', o', rfl, x0, x1⟩ := h
  clear hp hr
  go_enter Tryd.func8, Tryd.ntmps8
  go_wp2_with fail
  refine (refBatchFault_any d _ _ ⟨_, _, _, _, _, _, _, _, _, _, rfl, x0.alloc _, x1.alloc _⟩).mono ?_
  rintro e w1 ⟨rfl, hb1⟩
  have B3 := ((show Box _ w.heap.size [.int .i64 d.I.rows, .int .i64 d.I.cols, .slice a n k, .int .i64 d.W.rows, .int .i64 d.W.cols, .slice a' n' k'] 52 from (by repeat (first | fail | (with_reducible refine (Box.new' _ w.heap.size _ _ ?_); (simp; done)) | (with_reducible refine Box.alloc ?_ _) | (with_reducible refine Box.drewN ?_ _) | (with_reducible refine Box.drew ?_) | (with_reducible refine Box.far ?_ ?_ _; rotate_left 1; (first | (dsimp only; omega) | omega | (simp; omega) | simp)))))).keep hb1
  have B3c := B3.cell
  have B3f := B3.thawed
  have B3z := B3.lt
  have B3k := lt_add B3z
  have hkw1 : Below w.heap.size w w1 := (by repeat (first | fail | (with_reducible exact Below.refl _ _) | (with_reducible refine Below.al ?_ _) | (with_reducible refine Below.drN ?_ _) | (with_reducible refine Below.drew ?_) | (with_reducible refine Below.st ?_ ?_ _; rotate_left 1; (first | (dsimp only; omega) | omega | (simp; omega) | simp)) | (with_reducible refine Below.go ?_ hb1) | exact Below.refl _ _))
  replace x0 := x0.keep hkw1
  replace x1 := x1.keep hkw1
  replace hh := hh.keep hkw1
  have hsw1 := hkw1.size
  go_wp2_with fail
  refine (batchCheck_any d _ _ ⟨_, _, _, _, _, _, _, _, _, _, rfl, x0, x1⟩).mono ?_
  rintro e w2 ⟨rfl, hb2⟩
  have hkw2 : Below w1.heap.size w1 w2 := (by repeat (first | fail | (with_reducible exact Below.refl _ _) | (with_reducible refine Below.al ?_ _) | (with_reducible refine Below.drN ?_ _) | (with_reducible refine Below.drew ?_) | (with_reducible refine Below.st ?_ ?_ _; rotate_left 1; (first | (dsimp only; omega) | omega | (simp; omega) | simp)) | (with_reducible refine Below.go ?_ hb2) | exact Below.refl _ _))
  replace B3 := B3.keep hkw2
  replace B3c := B3.cell
  replace B3f := B3.thawed
  replace B3z := B3.lt
  replace B3k := lt_add B3z
  replace x0 := x0.keep hkw2
  replace x1 := x1.keep hkw2
  replace hh := hh.keep hkw2
  have hsw2 := hkw2.size
  go_wp2_with fail
  refine (error_same _ _ hh).mono ?_
  rintro e w3 ⟨rfl, hb3⟩
  have hkw3 : Below w2.heap.size w2 w3 := (by repeat (first | fail | (with_reducible exact Below.refl _ _) | (with_reducible refine Below.al ?_ _) | (with_reducible refine Below.drN ?_ _) | (with_reducible refine Below.drew ?_) | (with_reducible refine Below.st ?_ ?_ _; rotate_left 1; (first | (dsimp only; omega) | omega | (simp; omega) | simp)) | (with_reducible refine Below.go ?_ hb3) | exact Below.refl _ _))
  replace B3 := B3.keep hkw3
  replace B3c := B3.cell
  replace B3f := B3.thawed
  replace B3z := B3.lt
  replace B3k := lt_add B3z
  replace x0 := x0.keep hkw3
  replace x1 := x1.keep hkw3
  replace hh := hh.keep hkw3
  have hsw3 := hkw3.size
  go_wp2_with fail
  refine (sizes_any r p _).mono ?_
  rintro e w4 ⟨a4, n4, k4, b4, rfl, hb4, y4⟩
  have hkw4 : Below w3.heap.size w3 w4 := (by repeat (first | fail | (with_reducible exact Below.refl _ _) | (with_reducible refine Below.al ?_ _) | (with_reducible refine Below.drN ?_ _) | (with_reducible refine Below.drew ?_) | (with_reducible refine Below.st ?_ ?_ _; rotate_left 1; (first | (dsimp only; omega) | omega | (simp; omega) | simp)) | (with_reducible refine Below.go ?_ hb4) | exact Below.refl _ _))
  replace B3 := B3.keep hkw4
  replace B3c := B3.cell
  replace B3f := B3.thawed
  replace B3z := B3.lt
  replace B3k := lt_add B3z
  replace x0 := x0.keep hkw4
  replace x1 := x1.keep hkw4
  replace hh := hh.keep hkw4
  have hsw4 := hkw4.size
  go_wp2_with fail
  refine (refSizes_any r p _).mono ?_
  rintro e w5 ⟨a5, n5, k5, b5, rfl, hb5, y5⟩
  have hkw5 : Below w4.heap.size w4 w5 := (by repeat (first | fail | (with_reducible exact Below.refl _ _) | (with_reducible refine Below.al ?_ _) | (with_reducible refine Below.drN ?_ _) | (with_reducible refine Below.drew ?_) | (with_reducible refine Below.st ?_ ?_ _; rotate_left 1; (first | (dsimp only; omega) | omega | (simp; omega) | simp)) | (with_reducible refine Below.go ?_ hb5) | exact Below.refl _ _))
  replace B3 := B3.keep hkw5
  replace B3c := B3.cell
  replace B3f := B3.thawed
  replace B3z := B3.lt
  replace B3k := lt_add B3z
  replace x0 := x0.keep hkw5
  replace x1 := x1.keep hkw5
  replace hh := hh.keep hkw5
  replace y4 := y4.keep hkw5
  have hsw5 := hkw5.size
  go_wp2_with fail
  refine (error_same _ _ hh).mono ?_
  rintro e w6 ⟨rfl, hb6⟩
  have hkw6 : Below w5.heap.size w5 w6 := (by repeat (first | fail | (with_reducible exact Below.refl _ _) | (with_reducible refine Below.al ?_ _) | (with_reducible refine Below.drN ?_ _) | (with_reducible refine Below.drew ?_) | (with_reducible refine Below.st ?_ ?_ _; rotate_left 1; (first | (dsimp only; omega) | omega | (simp; omega) | simp)) | (with_reducible refine Below.go ?_ hb6) | exact Below.refl _ _))
  replace B3 := B3.keep hkw6
  replace B3c := B3.cell
  replace B3f := B3.thawed
  replace B3z := B3.lt
  replace B3k := lt_add B3z
  replace x0 := x0.keep hkw6
  replace x1 := x1.keep hkw6
  replace hh := hh.keep hkw6
  replace y4 := y4.keep hkw6
  replace y5 := y5.keep hkw6
  have hsw6 := hkw6.size
  go_wp2_with fail
  refine (ints_any _ _ _ _ _ _ _ _ _ _ _ _ _ y4 y5).mono ?_
  rw [decide_eq_true rfl]
  rintro e w7' ⟨rfl, m7, rfl⟩
  have hbd : Below w6.heap.size w6 (w6.drewN m7) := (by repeat (first | fail | (with_reducible exact Below.refl _ _) | (with_reducible refine Below.al ?_ _) | (with_reducible refine Below.drN ?_ _) | (with_reducible refine Below.drew ?_) | (with_reducible refine Below.st ?_ ?_ _; rotate_left 1; (first | (dsimp only; omega) | omega | (simp; omega) | simp)) | exact Below.refl _ _))
  obtain ⟨w7, hw7, C3, z0, z1, hh7, hb7⟩ : ∃ w7, w7 = w6.drewN m7 ∧ Box w7 w.heap.size [.int .i64 d.I.rows, .int .i64 d.I.cols, .slice a n k, .int .i64 d.W.rows, .int .i64 d.W.cols, .slice a' n' k'] 52 ∧ IntsAt w7 a n k b o d.I.cells ∧ IntsAt w7 a' n' k' b' o' d.W.cells ∧ Handle w7 ∧ Below w6.heap.size w6 w7 := ⟨_, rfl, B3.drewN m7, x0.drewN m7, x1.drewN m7, hh.keep hbd, hbd⟩
  rw [← hw7]
  have hbw7 : Below w.heap.size w w7 := (by repeat (first | fail | (with_reducible exact Below.refl _ _) | (with_reducible refine Below.al ?_ _) | (with_reducible refine Below.drN ?_ _) | (with_reducible refine Below.drew ?_) | (with_reducible refine Below.st ?_ ?_ _; rotate_left 1; (first | (dsimp only; omega) | omega | (simp; omega) | simp)) | (with_reducible refine Below.go ?_ hb7) | (with_reducible refine Below.go ?_ hb6) | (with_reducible refine Below.go ?_ hb5) | (with_reducible refine Below.go ?_ hb4) | (with_reducible refine Below.go ?_ hb3) | (with_reducible refine Below.go ?_ hb2) | (with_reducible refine Below.go ?_ hb1) | exact Below.refl _ _))
  clear hw7 B3 B3c B3f B3z B3k x0 x1 hh y4 y5
  have B3 := C3
  have B3c := B3.cell
  have B3f := B3.thawed
  have B3z := B3.lt
  have B3k := lt_add B3z
  have x0 := z0
  have x1 := z1
  have hh := hh7
  go_wp2_with fail
  refine (batchSplit_any d p _ _ ⟨_, _, _, _, _, _, _, _, _, _, rfl, x0, x1⟩).mono ?_
  rintro e w31 ⟨u8, rfl, hb31, hv8, hw8⟩
  have hkw31 : Below w7.heap.size w7 w31 := (by repeat (first | fail | (with_reducible exact Below.refl _ _) | (with_reducible refine Below.al ?_ _) | (with_reducible refine Below.drN ?_ _) | (with_reducible refine Below.drew ?_) | (with_reducible refine Below.st ?_ ?_ _; rotate_left 1; (first | (dsimp only; omega) | omega | (simp; omega) | simp)) | (with_reducible refine Below.go ?_ hb31) | exact Below.refl _ _))
  replace B3 := B3.keep hkw31
  replace B3c := B3.cell
  replace B3f := B3.thawed
  replace B3z := B3.lt
  replace B3k := lt_add B3z
  replace x0 := x0.keep hkw31
  replace x1 := x1.keep hkw31
  replace hh := hh.keep hkw31
  have hsw31 := hkw31.size
  go_wp2_with fail
  refine (refSplit_any d p _ _ ⟨_, _, _, _, _, _, _, _, _, _, rfl, x0, x1⟩).mono ?_
  rintro e w32 ⟨u9, rfl, hb32, hv9, hw9⟩
  have hb32' := hb32
  have hkw32 : Below w31.heap.size w31 w32 := (by repeat (first | fail | (with_reducible exact Below.refl _ _) | (with_reducible refine Below.al ?_ _) | (with_reducible refine Below.drN ?_ _) | (with_reducible refine Below.drew ?_) | (with_reducible refine Below.st ?_ ?_ _; rotate_left 1; (first | (dsimp only; omega) | omega | (simp; omega) | simp)) | (with_reducible refine Below.go ?_ hb32) | exact Below.refl _ _))
  replace hh := hh.keep hkw32
  have hsw32 := hkw32.size
  have V8 := Lib.hid hv8
  have V9 := Lib.hid hv9
  have W8 := Lib.hid hw8
  have W9 := Lib.hid hw9
  clear hv8 hv9 hw8 hw9
  go_wp2_with fail
  refine (error_same _ _ hh).mono ?_
  rintro e w33 ⟨rfl, hb33⟩
  have hb33' : Below w.heap.size w w33 := (by repeat (first | fail | (with_reducible exact Below.refl _ _) | (with_reducible exact hbw7) | (with_reducible refine Below.al ?_ _) | (with_reducible refine Below.drN ?_ _) | (with_reducible refine Below.drew ?_) | (with_reducible refine Below.st ?_ ?_ _; rotate_left 1; (first | (dsimp only; omega) | omega | (simp; omega) | simp)) | (with_reducible refine Below.go ?_ hb33) | (with_reducible refine Below.go ?_ hb32) | (with_reducible refine Below.go ?_ hb31) | exact Below.refl _ _ | exact hbw7))
  by_cases hf : splitFault d p = 0
  · obtain ⟨a8, k8, b8, rfl, r8⟩ := V8.out hf
    obtain ⟨a9, k9, b9, rfl, r9⟩ := V9.out hf
    clear hf
    go_wp2_with fail
    refine (batches_same _ _ _ _ _ _ _ _ _ _ _ _ _ _ ((r8.keep hb32').keep hb33) (r9.keep hb33)).mono ?_
    rintro e w34 ⟨rfl, hb34⟩
    have hbe : Below w.heap.size w w34 := (by repeat (first | fail | (with_reducible exact Below.refl _ _) | (with_reducible exact hb33') | (with_reducible refine Below.al ?_ _) | (with_reducible refine Below.drN ?_ _) | (with_reducible refine Below.drew ?_) | (with_reducible refine Below.st ?_ ?_ _; rotate_left 1; (first | (dsimp only; omega) | omega | (simp; omega) | simp)) | (with_reducible refine Below.go ?_ hb34) | exact Below.refl _ _ | exact hb33'))
    go_wp2
    go_ret
    exact ⟨rfl, hbe⟩
  · have e8 := W8.out hf
    have e9 := W9.out hf
    subst e8
    subst e9
    clear hf
    go_wp2_with fail
    refine (batches_same [] anyB anyB none none 0 0 0 0 0 0 0 0 _ (RowAt.nil _ _ _) (RowAt.nil _ _ _)).mono ?_
    rintro e w34 ⟨rfl, hb34⟩
    have hbe : Below w.heap.size w w34 := (by repeat (first | fail | (with_reducible exact Below.refl _ _) | (with_reducible exact hb33') | (with_reducible refine Below.al ?_ _) | (with_reducible refine Below.drN ?_ _) | (with_reducible refine Below.drew ?_) | (with_reducible refine Below.st ?_ ?_ _; rotate_left 1; (first | (dsimp only; omega) | omega | (simp; omega) | simp)) | (with_reducible refine Below.go ?_ hb34) | exact Below.refl _ _ | exact hb33'))
    go_wp2
    go_ret
    exact ⟨rfl, hbe⟩

theorem own : ownKnob Tryd.prog.godebug = none := by kernel_rfl
theorem laidOut : laidOutB Tryd.prog = true := by kernel_rfl
theorem et : Tryd.prog.globalNamed "errors.errorType" = some 0 := by kernel_rfl
theorem rt : (Tryd.prog.cutTypes.find? (·.1 == "internal/reflectlite.rtype")).map (·.2) = some 171 := by kernel_rfl
theorem oneRow : ((List.range 215).filter fun t => Tryd.prog.rowNamed t [101, 114, 114, 111, 114]) = [27] := by kernel_rfl
theorem tsize : Tryd.prog.types.size = 215 := by kernel_rfl
theorem handle_of_laid {W : World} (h : laidMetH Tryd.prog Rows.batchSplitsRow.laid W) : Handle W := by
  have h' : laidMet Tryd.prog [] W ∧ handlesMet Tryd.prog Rows.batchSplitsRow.laid W := h
  obtain ⟨name, u, ty, e1, e2, e3, e4, e5⟩ := h'.2 _ (List.mem_singleton.2 rfl)
  have en : name = [101, 114, 114, 111, 114] := (Option.some.inj e1).symm
  subst en
  obtain rfl := Option.some.inj (rt.symm.trans e2)
  have hm : ty ∈ (List.range 215).filter fun t => Tryd.prog.rowNamed t [101, 114, 114, 111, 114] := List.mem_filter.2 ⟨List.mem_range.2 (by rw [← tsize]; exact e3), e4⟩
  rw [oneRow] at hm
  obtain rfl := List.mem_singleton.1 hm
  have hh : typeHandle Tryd.prog 27 = .pointer (some ⟨1, 27, none⟩) := by kernel_rfl
  rw [hh] at e5
  simpa [Handle, handleV] using World.var?_cell et e5 0
noncomputable def laidWorld (os : Os) : World :=
  { World.holding Tryd.prog os ⟨#[], #[], []⟩ with heap := (World.holding Tryd.prog os ⟨#[], #[], []⟩).heap.modify 0 fun
      | .cells _ t frozen => .cells #[.iface 171 (.agg #[.pointer (some ⟨1, 27, none⟩)])] t frozen
      | o => o }
theorem laid_met (os : Os) : laidMetH Tryd.prog Rows.batchSplitsRow.laid ((laidWorld os).forCall (fun _ _ => 0) ⟨#[], #[.agg #[.int .i64 0, .int .i64 0, .slice none 0 0, .int .i64 0, .int .i64 0, .slice none 0 0], .int .i64 0, .int .i64 0], []⟩).memory :=
  laidMetH_of_parts (laidMet_nil _ _) (by kernel_rfl)
theorem reads (os : Os) {H : Type} (enc : TypeId × Value → H) : ∃ places, DataW.whole enc Tryd.prog ((laidWorld os).forCall (fun _ _ => 0) ⟨#[], #[.agg #[.int .i64 0, .int .i64 0, .slice none 0 0, .int .i64 0, .int .i64 0, .slice none 0 0], .int .i64 0, .int .i64 0], []⟩).memory Tryd.f8.params.toList Rows.batchSplitsSpec.vars false (#[.agg #[.int .i64 0, .int .i64 0, .slice none 0 0, .int .i64 0, .int .i64 0, .slice none 0 0], .int .i64 0, .int .i64 0] : Array Value).toList 8 = some ([.agg [.agg [.lit (.int .i64 0), .lit (.int .i64 0), .nil], .agg [.lit (.int .i64 0), .lit (.int .i64 0), .nil]], .lit (.int .i64 0), .lit (.int .i64 0)], [], places) :=
  ⟨[], by kernel_rfl⟩
set_option maxRecDepth 100000 in
set_option maxHeartbeats 1000000 in
theorem contract (H : Type) (enc : TypeId × Value → H) (W : World) (base : Nat) (args : Array Value) (ds gs : List (DataW H)) (before : List MemPlace)
    (hval0 : ∀ (j : Nat) t v, Tryd.f8.params[j]? = some t → args[j]? = some v → Value.okWide Tryd.prog W .any base t v)
    (hW : DataW.Whole enc Tryd.prog Tryd.f8.params.toList Rows.batchSplitsSpec.vars false W args.toList ds gs before) (hh : Handle W) :
    Calls Tryd.prog 8 args W fun e W' => ∃ v, e = .returned v ∧ Rows.batchSplitsSpec.post enc Tryd.prog Tryd.f8 false true false false W args v W' := by
  have hval := hval0
  have hW' := hW
  obtain ⟨p, q, hA0, hV, rfl, hfz, hnd⟩ := hW
  have hA : DataW.TrodAll enc Tryd.prog W 0 (fun _ => true) true Tryd.f8.params.toList args.toList ds p := hA0
  rw [Tryd.params8] at hA hval
  obtain ⟨v0, vs0, d0, ds0, p0, q0, hargs, rfl, rfl, h0, r0⟩ := trodAll_cons hA
  obtain ⟨v1, vs1, d1, ds1, p1, q1, rfl, rfl, rfl, h1, r1⟩ := trodAll_cons r0
  obtain ⟨v2, vs2, d2, ds2, p2, q2, rfl, rfl, rfl, h2, r2⟩ := trodAll_cons r1
  obtain ⟨rfl, rfl, rfl⟩ := trodAll_nil r2
  obtain rfl : args = #[v0, v1, v2] := by cases args; simp_all
  obtain ⟨rfl, rfl⟩ := trodVars_none hV
  have k0 := h0
  have lt0 : ∀ x ∈ p0, x.block < W.heap.size := by obtain ⟨m, hm⟩ := k0; exact DataW.trod_lt m _ _ _ hm
  have k1 := h1
  have lt1 : ∀ x ∈ p1, x.block < W.heap.size := by obtain ⟨m, hm⟩ := k1; exact DataW.trod_lt m _ _ _ hm
  have k2 := h2
  have lt2 : ∀ x ∈ p2, x.block < W.heap.size := by obtain ⟨m, hm⟩ := k2; exact DataW.trod_lt m _ _ _ hm
  obtain ⟨a0, w0⟩ := open_Batch (hval 0 52 v0 rfl rfl) h0
  obtain ⟨a1, rfl, rfl, rfl, w1⟩ := open_int Tryd.underlying3 (hval 1 3 v1 rfl rfl) h1
  obtain ⟨a2, rfl, rfl, rfl, w2⟩ := open_int Tryd.underlying3 (hval 2 3 v2 rfl rfl) h2
  clear hA0 hval0
  refine (walk a0 v0 a1 a2 W w0 w1 w2 hh).mono fun e W' ⟨he, bel⟩ => ?_
  subst he
  exact ⟨_, rfl, _, _, _, [], _, [], hW', trodAll_mk1 (shut_bool Tryd.underlying4 _), (trodAll_cons_mk (Below.trod laidOut (by kernel_rfl) (of_decide_eq_true (by kernel_rfl)) k0 bel lt0) (trodAll_cons_mk (Below.trod laidOut (by kernel_rfl) (of_decide_eq_true (by kernel_rfl)) k1 bel lt1) (trodAll_cons_mk (Below.trod laidOut (by kernel_rfl) (of_decide_eq_true (by kernel_rfl)) k2 bel lt2) trodAll_mk0))), rfl, bel.frame _, fun h => by cases h⟩

set_option maxRecDepth 100000 in
theorem lifted (os : Os) (started : os.Started) (H : Type) (enc : TypeId × Value → H) (F : Stop.Interp) :
    ReturnsInHanded {} Tryd.checked os 8 .any ((OpenSpec.ofChange Rows.batchSplitsSpec).preRow enc Tryd.prog Tryd.f8 Rows.batchSplitsRow.domain false Rows.batchSplitsRow.laid) (((OpenSpec.ofChange Rows.batchSplitsSpec).at F).post enc Tryd.prog Tryd.f8 false true false false) := by
  obtain ⟨places, hx⟩ := reads os enc
  refine returnsInHanded_of_row (C := Tryd.checked) (s := OpenSpec.ofChange Rows.batchSplitsSpec) own started (by kernel_rfl) Tryd.func8
    (witness_row_at (enc := enc) (C := Tryd.checked) false (laidWorld os) #[.agg #[.int .i64 0, .int .i64 0, .slice none 0 0, .int .i64 0, .int .i64 0, .slice none 0 0], .int .i64 0, .int .i64 0] rfl (by kernel_rfl) (by kernel_rfl) (by kernel_rfl)
      (OpenSpec.preRow_of_cond 8 hx (by kernel_rfl) (fun k hk => by cases hk) (by kernel_rfl) (laid_met os))) ?_
  intro W base args ds gs before hval hW _ _ _ hL _ _
  exact contract H enc W base args ds gs before hval hW (handle_of_laid hL)

theorem said : Rows.BatchSplitsSaid :=
  OpenClaim.holds_of_cond 8 Tryd.f8 rfl rfl rfl rfl rfl rfl rfl ⟨rfl, rfl, rfl, rfl, rfl⟩ rfl rfl rfl rfl rfl (by kernel_rfl) Tryd.func8 (by kernel_rfl)
    (of_decide_eq_true (by kernel_rfl)) (by unfold Func.isWrapper; first | (rw [if_pos (by decide +kernel)]; kernel_rfl) | (rw [if_neg (by decide +kernel)]; exact ⟨rfl, rfl⟩))
    (fun os started H enc _ F => by rw [OpenClaim.pre_eq_preRow]; exact lifted os started H enc F)
theorem plain (f : FuncId) (fn : Func) (hf : Tryd.pinned.checked.prog.funcNamed Rows.batchSplitsRow.func = some f) (hfn : Tryd.pinned.checked.prog.funcs[f]? = some fn) :
    Rows.batchSplitsCard.stood.looks = Tryd.pinned.checked.prog.looks [] ∧ ∀ (j : Nat) t, fn.params[j]? = some t → Tryd.pinned.checked.prog.wantsStandIn t = false := by
  obtain rfl : f = 8 := Option.some.inj ((show Tryd.prog.funcNamed Rows.batchSplitsRow.func = some 8 by kernel_rfl).symm.trans hf) |>.symm
  obtain rfl : fn = Tryd.f8 := (Option.some.inj (Tryd.func8.symm.trans hfn)).symm
  refine ⟨by kernel_rfl, fun j t ht => ?_⟩
  rw [Tryd.params8] at ht
  have hm := Array.mem_of_getElem? ht
  have hc : t = 52 ∨ t = 3 ∨ t = 3 := by simpa using hm
  rcases hc with rfl | rfl | rfl
  · exact (show Tryd.prog.wantsStandIn 52 = false by kernel_rfl)
  · exact (show Tryd.prog.wantsStandIn 3 = false by kernel_rfl)
  · exact (show Tryd.prog.wantsStandIn 3 = false by kernel_rfl)
theorem proved : Rows.BatchSplitsCardSaid :=
  Claim7.holds_tied_plain_at .later [] _ _ _ _ said (fun _ h => by cases h) (by kernel_rfl) (fun _ h => by cases h) batchSplits_row_tie rfl ⟨rfl, rfl⟩ (by kernel_rfl) rfl plain (by kernel_rfl)
#print axioms proved

end Go.Proofs.YtopckalgpeapnaaDoor.lawBatchSplits
