/- KeepSaves: any state as bytes is the document's: the law returns true. No condition. -/
import Derived.Test.YtgknjikjjklaiaaDoorCards
import Derived.Test.YtgknjikjjklaiaaDoorTie
import Derived.Test.YtgknjikjjklaiaaDoorKeep3
import Derived.Test.YtgknjikjjklaiaaDoorRKeep2
import Derived.Test.YtgknjikjjklaiaaDoorRWire2
import Derived.Test.YtgknjikjjklaiaaDoorOpenS
import Derived.Test.YtgknjikjjklaiaaDoorTold
import Derived.Deep.DeepHandedRow
set_option linter.unusedVariables false
set_option linter.unusedSimpArgs false
set_option linter.unusedSectionVars false
set_option maxRecDepth 100000
namespace Go.Proofs.YtgknjikjjklaiaaDoor.lawKeepSaves
open Go.ChangeShapes Go.WideShapes Go.ChangeAt Go.RowKit Gal
set_option maxHeartbeats 8000000
theorem state_any (z : Int) (a0 a1 : Option Addr) (n n1 k0 k1 : Nat) (w : World) :
    Calls Tryd.prog 23 #[.agg #[.slice a0 n k0, .slice a1 n1 k1, .int .i64 z]] w fun e w' => e = .returned (.agg #[.slice a0 n k0, .slice a1 n1 k1, .int .i64 z]) ∧ Below w.heap.size w w' := by
  have hB : Box ((w.alloc (.cells #[.slice a0 n k0, .slice a1 n1 k1, .int .i64 z] 61)).alloc (.cells #[.slice a0 n k0, .slice a1 n1 k1, .int .i64 z] 62)) (w.heap.size + 1) [.slice a0 n k0, .slice a1 n1 k1, .int .i64 z] 62 := Box.new' _ _ [.slice a0 n k0, .slice a1 n1 k1, .int .i64 z] _ (by simp)
  have z0 := hB.cell 0
  have z1 := hB.cell 1
  have z2 := hB.cell 2
  go_enter Tryd.func23, Tryd.ntmps23
  go_wp2
  refine bodyPost_ret (v := .agg #[.slice a0 n k0, .slice a1 n1 k1, .int .i64 z]) (by simp [results, Tryd.results23, go_sem, z0, z1, z2]) rfl ⟨rfl, (by repeat (first | fail | (with_reducible exact Below.refl _ _) | (with_reducible refine Below.al ?_ _) | (with_reducible refine Below.drN ?_ _) | (with_reducible refine Below.drew ?_) | (with_reducible refine Below.st ?_ ?_ _; rotate_left 1; (first | (dsimp only; omega) | omega | (simp; omega) | simp)) | exact Below.refl _ _))⟩
theorem walk (s : Sta) (v : Value) (w : World) (hs : StaV w v s) (hh : Handle w) :
    Calls Tryd.prog 7 #[v] w fun e w' => e = .returned (.bool true) ∧ Below w.heap.size w w' := by
  obtain ⟨a0, n, k0, b0, o0, a1, n1, k1, b1, o1, rfl, h0, h1⟩ := hs
  by_cases hf : s.fault = 0
  · have HF := Lib.hid hf
    clear hf
    go_enter Tryd.func7, Tryd.ntmps7
    go_wp2_with fail
    refine (state_any s.steps a0 a1 n n1 k0 k1 _).mono ?_
    rintro e w1 ⟨rfl, hb1⟩
    have B1 := (Box.new w [.slice a0 n k0, .slice a1 n1 k1, .int .i64 s.steps] 61).keep hb1
    have B1c := B1.cell
    have B1f := B1.thawed
    have B1z := B1.lt
    have B1k := lt_add B1z
    have hkw1 : Below w.heap.size w w1 := (by repeat (first | fail | (with_reducible exact Below.refl _ _) | (with_reducible refine Below.al ?_ _) | (with_reducible refine Below.drN ?_ _) | (with_reducible refine Below.drew ?_) | (with_reducible refine Below.st ?_ ?_ _; rotate_left 1; (first | (dsimp only; omega) | omega | (simp; omega) | simp)) | (with_reducible refine Below.go ?_ hb1) | exact Below.refl _ _))
    replace h0 := h0.keep hkw1
    replace h1 := h1.keep hkw1
    replace hh := hh.keep hkw1
    have hsw1 := hkw1.size
    go_wp2_with fail
    refine (keepSave_ok s anyB anyB _ _ _ _ _ _ _ _ _ _ _ (h0.alloc _) (h1.alloc _) HF.out).mono ?_
    rintro e w2 ⟨vS, eS, rfl, hb2, hS⟩
    have hkw2 : Below w1.heap.size w1 w2 := (by repeat (first | fail | (with_reducible exact Below.refl _ _) | (with_reducible refine Below.al ?_ _) | (with_reducible refine Below.drN ?_ _) | (with_reducible refine Below.drew ?_) | (with_reducible refine Below.st ?_ ?_ _; rotate_left 1; (first | (dsimp only; omega) | omega | (simp; omega) | simp)) | (with_reducible refine Below.go ?_ hb2) | exact Below.refl _ _))
    replace B1 := B1.keep hkw2
    replace B1c := B1.cell
    replace B1f := B1.thawed
    replace B1z := B1.lt
    replace B1k := lt_add B1z
    replace h0 := h0.keep hkw2
    replace h1 := h1.keep hkw2
    replace hh := hh.keep hkw2
    have hsw2 := hkw2.size
    go_wp2_with fail
    refine (refStateFault_any s anyB anyB _ _ _ _ _ _ _ _ _ _ _ h0 h1).mono ?_
    rw [HF.out]
    rintro e w3 ⟨rfl, hb3⟩
    have hkw3 : Below w2.heap.size w2 w3 := (by repeat (first | fail | (with_reducible exact Below.refl _ _) | (with_reducible refine Below.al ?_ _) | (with_reducible refine Below.drN ?_ _) | (with_reducible refine Below.drew ?_) | (with_reducible refine Below.st ?_ ?_ _; rotate_left 1; (first | (dsimp only; omega) | omega | (simp; omega) | simp)) | (with_reducible refine Below.go ?_ hb3) | exact Below.refl _ _))
    replace B1 := B1.keep hkw3
    replace B1c := B1.cell
    replace B1f := B1.thawed
    replace B1z := B1.lt
    replace B1k := lt_add B1z
    replace h0 := h0.keep hkw3
    replace h1 := h1.keep hkw3
    replace hh := hh.keep hkw3
    have hsw3 := hkw3.size
    have HS3 : Hid (((staBytes s).length ≤ 100000 ∧ eS = .nilIface ∧ OwnRow Form.u8 5 w3 (w1.heap.size + 1) noK vS (staBytes s)) ∨ (100000 < (staBytes s).length ∧ vS = .slice none 0 0 ∧ eS = errV 3)) := Lib.hid (by
      rcases hS with ⟨q1, q2, q3⟩ | q
      · exact Or.inl ⟨q1, q2, by simpa using q3.keep hb3⟩
      · exact Or.inr q)
    clear hS
    go_wp2_with fail
    refine (refSaveOf_ok s anyB anyB _ _ _ _ _ _ _ _ _ _ _ h0 h1 HF.out).mono ?_
    rintro e w4 ⟨vR, rfl, hownR, hb4⟩
    have hkw4 : Below w3.heap.size w3 w4 := (by repeat (first | fail | (with_reducible exact Below.refl _ _) | (with_reducible refine Below.al ?_ _) | (with_reducible refine Below.drN ?_ _) | (with_reducible refine Below.drew ?_) | (with_reducible refine Below.st ?_ ?_ _; rotate_left 1; (first | (dsimp only; omega) | omega | (simp; omega) | simp)) | (with_reducible refine Below.go ?_ hb4) | exact Below.refl _ _))
    replace hh := hh.keep hkw4
    have hsw4 := hkw4.size
    obtain ⟨aR, kR, bR, hvR, _, rR⟩ := hownR.row (G := anyB) (fun _ _ _ => trivial) (fun _ _ => trivial)
    obtain ⟨X, hX⟩ : ∃ X, staBytes s = X := ⟨_, rfl⟩
    obtain ⟨M, hM⟩ : ∃ M, X.length = M := ⟨_, rfl⟩
    rw [hX, hM] at hvR rR
    have hs3 := HS3.out
    rw [hX, hM] at hs3
    clear HS3 hownR hX B1 B1c B1f B1z B1k h0 h1
    subst hvR
    have hbw4 : Below w.heap.size w w4 := (by repeat (first | fail | (with_reducible exact Below.refl _ _) | (with_reducible refine Below.al ?_ _) | (with_reducible refine Below.drN ?_ _) | (with_reducible refine Below.drew ?_) | (with_reducible refine Below.st ?_ ?_ _; rotate_left 1; (first | (dsimp only; omega) | omega | (simp; omega) | simp)) | (with_reducible refine Below.go ?_ hb4) | (with_reducible refine Below.go ?_ hb3) | (with_reducible refine Below.go ?_ hb2) | (with_reducible refine Below.go ?_ hb1) | exact Below.refl _ _))
    rcases hs3 with ⟨g1, rfl, q3⟩ | ⟨g1, rfl, rfl⟩
    · obtain ⟨aS, kS, bS, hvS, _, rS⟩ := q3.row (G := anyB) (fun _ _ _ => trivial) (fun _ _ => trivial)
      rw [hM] at hvS rS
      subst hvS
      have rS4 := rS.keep hb4
      have e1 : ((M : Int) > 100000) = False := eq_false (by omega)
      clear q3 rS hM g1 hb1 hb2 hb3 hb4
      go_wp2_with fail
      refine (error_any 0 0 _ hh).mono ?_
      rintro e w5 ⟨rfl, hb5⟩
      rw [decide_eq_true rfl]
      have hkw5 : Below w4.heap.size w4 w5 := (by repeat (first | fail | (with_reducible exact Below.refl _ _) | (with_reducible refine Below.al ?_ _) | (with_reducible refine Below.drN ?_ _) | (with_reducible refine Below.drew ?_) | (with_reducible refine Below.st ?_ ?_ _; rotate_left 1; (first | (dsimp only; omega) | omega | (simp; omega) | simp)) | (with_reducible refine Below.go ?_ hb5) | exact Below.refl _ _))
      replace rS4 := rS4.keep hkw5
      replace rR := rR.keep hkw5
      have hsw5 := hkw5.size
      go_wp2_with fail
      refine (refOctets_same X aS aR _ kS bS 0 kR bR 0 anyB anyB _ rS4 rR).mono ?_
      rintro e w6 ⟨rfl, hb6⟩
      have hbe : Below w.heap.size w w6 := (by repeat (first | fail | (with_reducible exact Below.refl _ _) | (with_reducible exact hbw4) | (with_reducible refine Below.al ?_ _) | (with_reducible refine Below.drN ?_ _) | (with_reducible refine Below.drew ?_) | (with_reducible refine Below.st ?_ ?_ _; rotate_left 1; (first | (dsimp only; omega) | omega | (simp; omega) | simp)) | (with_reducible refine Below.go ?_ hb6) | (with_reducible refine Below.go ?_ hb5) | exact Below.refl _ _ | exact hbw4))
      clear rS4 rR
      go_wp2
      go_ret
      exact ⟨rfl, hbe⟩
    · have e1 : ((M : Int) > 100000) = True := eq_true (by omega)
      clear rR hM g1 hb1 hb2 hb3 hb4
      go_wp2_with fail
      refine (error_any 3 3 _ hh).mono ?_
      rintro e w5 ⟨rfl, hb5⟩
      rw [show decide ((3 : Int) = 3) = true from rfl]
      go_wp2_with fail
      refine (refOctets_same [] none none 0 0 0 0 0 0 0 anyB anyB _ (RowAt.nil _ _ _) (RowAt.nil _ _ _)).mono ?_
      rintro e w6 ⟨rfl, hb6⟩
      have hbe : Below w.heap.size w w6 := (by repeat (first | fail | (with_reducible exact Below.refl _ _) | (with_reducible exact hbw4) | (with_reducible refine Below.al ?_ _) | (with_reducible refine Below.drN ?_ _) | (with_reducible refine Below.drew ?_) | (with_reducible refine Below.st ?_ ?_ _; rotate_left 1; (first | (dsimp only; omega) | omega | (simp; omega) | simp)) | (with_reducible refine Below.go ?_ hb6) | (with_reducible refine Below.go ?_ hb5) | exact Below.refl _ _ | exact hbw4))
      go_wp2
      go_ret
      exact ⟨rfl, hbe⟩
  · obtain ⟨f, hfe⟩ : ∃ f, s.fault = f := ⟨_, rfl⟩
    have HF := Lib.hid hfe
    rw [hfe] at hf
    have hsv := fun W q0 q1 => keepSave_bad s anyB anyB a0 a1 n n1 k0 k1 b0 b1 o0 o1 W q0 q1 (by rw [hfe]; exact hf)
    rw [hfe] at hsv
    have e1 : (f == 0) = false := by rw [beq_eq_false_iff_ne]; exact hf
    clear hfe hf
    go_enter Tryd.func7, Tryd.ntmps7
    go_wp2_with fail
    refine (state_any s.steps a0 a1 n n1 k0 k1 _).mono ?_
    rintro e w1 ⟨rfl, hb1⟩
    have B1 := (Box.new w [.slice a0 n k0, .slice a1 n1 k1, .int .i64 s.steps] 61).keep hb1
    have B1c := B1.cell
    have B1f := B1.thawed
    have B1z := B1.lt
    have B1k := lt_add B1z
    have hkw1 : Below w.heap.size w w1 := (by repeat (first | fail | (with_reducible exact Below.refl _ _) | (with_reducible refine Below.al ?_ _) | (with_reducible refine Below.drN ?_ _) | (with_reducible refine Below.drew ?_) | (with_reducible refine Below.st ?_ ?_ _; rotate_left 1; (first | (dsimp only; omega) | omega | (simp; omega) | simp)) | (with_reducible refine Below.go ?_ hb1) | exact Below.refl _ _))
    replace h0 := h0.keep hkw1
    replace h1 := h1.keep hkw1
    replace hh := hh.keep hkw1
    have hsw1 := hkw1.size
    go_wp2_with fail
    refine (hsv _ (h0.alloc _) (h1.alloc _)).mono ?_
    rintro e w2 ⟨rfl, hb2⟩
    have hkw2 : Below w1.heap.size w1 w2 := (by repeat (first | fail | (with_reducible exact Below.refl _ _) | (with_reducible refine Below.al ?_ _) | (with_reducible refine Below.drN ?_ _) | (with_reducible refine Below.drew ?_) | (with_reducible refine Below.st ?_ ?_ _; rotate_left 1; (first | (dsimp only; omega) | omega | (simp; omega) | simp)) | (with_reducible refine Below.go ?_ hb2) | exact Below.refl _ _))
    replace B1 := B1.keep hkw2
    replace B1c := B1.cell
    replace B1f := B1.thawed
    replace B1z := B1.lt
    replace B1k := lt_add B1z
    replace h0 := h0.keep hkw2
    replace h1 := h1.keep hkw2
    replace hh := hh.keep hkw2
    have hsw2 := hkw2.size
    go_wp2_with fail
    refine (refStateFault_any s anyB anyB _ _ _ _ _ _ _ _ _ _ _ h0 h1).mono ?_
    rw [HF.out]
    rintro e w3 ⟨rfl, hb3⟩
    have hkw3 : Below w2.heap.size w2 w3 := (by repeat (first | fail | (with_reducible exact Below.refl _ _) | (with_reducible refine Below.al ?_ _) | (with_reducible refine Below.drN ?_ _) | (with_reducible refine Below.drew ?_) | (with_reducible refine Below.st ?_ ?_ _; rotate_left 1; (first | (dsimp only; omega) | omega | (simp; omega) | simp)) | (with_reducible refine Below.go ?_ hb3) | exact Below.refl _ _))
    replace hh := hh.keep hkw3
    have hsw3 := hkw3.size
    clear hsv B1 B1c B1f B1z B1k h0 h1
    go_wp2_with fail
    refine (error_any f f _ hh).mono ?_
    rintro e w4 ⟨rfl, hb4⟩
    rw [decide_eq_true rfl]
    go_wp2_with fail
    refine (refOctets_same [] none none 0 0 0 0 0 0 0 anyB anyB _ (RowAt.nil _ _ _) (RowAt.nil _ _ _)).mono ?_
    rintro e w5 ⟨rfl, hb5⟩
    have hbe : Below w.heap.size w w5 := (by repeat (first | fail | (with_reducible exact Below.refl _ _) | (with_reducible refine Below.al ?_ _) | (with_reducible refine Below.drN ?_ _) | (with_reducible refine Below.drew ?_) | (with_reducible refine Below.st ?_ ?_ _; rotate_left 1; (first | (dsimp only; omega) | omega | (simp; omega) | simp)) | (with_reducible refine Below.go ?_ hb5) | (with_reducible refine Below.go ?_ hb4) | (with_reducible refine Below.go ?_ hb3) | (with_reducible refine Below.go ?_ hb2) | (with_reducible refine Below.go ?_ hb1) | exact Below.refl _ _))
    go_wp2
    go_ret
    exact ⟨rfl, hbe⟩

theorem own : ownKnob Tryd.prog.godebug = none := by kernel_rfl
theorem laidOut : laidOutB Tryd.prog = true := by kernel_rfl
theorem et : Tryd.prog.globalNamed "errors.errorType" = some 1 := by kernel_rfl
theorem rt : (Tryd.prog.cutTypes.find? (·.1 == "internal/reflectlite.rtype")).map (·.2) = some 147 := by kernel_rfl
theorem oneRow : ((List.range 205).filter fun t => Tryd.prog.rowNamed t [101, 114, 114, 111, 114]) = [29] := by kernel_rfl
theorem tsize : Tryd.prog.types.size = 205 := by kernel_rfl
theorem handle_of_laid {W : World} (h : laidMetH Tryd.prog Rows.keepSavesRow.laid W) : Handle W := by
  have h' : laidMet Tryd.prog [] W ∧ handlesMet Tryd.prog Rows.keepSavesRow.laid W := h
  obtain ⟨name, u, ty, e1, e2, e3, e4, e5⟩ := h'.2 _ (List.mem_singleton.2 rfl)
  have en : name = [101, 114, 114, 111, 114] := (Option.some.inj e1).symm
  subst en
  obtain rfl := Option.some.inj (rt.symm.trans e2)
  have hm : ty ∈ (List.range 205).filter fun t => Tryd.prog.rowNamed t [101, 114, 114, 111, 114] := List.mem_filter.2 ⟨List.mem_range.2 (by rw [← tsize]; exact e3), e4⟩
  rw [oneRow] at hm
  obtain rfl := List.mem_singleton.1 hm
  have hh : typeHandle Tryd.prog 29 = .pointer (some ⟨2, 29, none⟩) := by kernel_rfl
  rw [hh] at e5
  simpa [Handle, handleV] using World.var?_cell et e5 0
noncomputable def laidWorld (os : Os) : World :=
  { World.holding Tryd.prog os ⟨#[], #[], []⟩ with heap := (World.holding Tryd.prog os ⟨#[], #[], []⟩).heap.modify 1 fun
      | .cells _ t frozen => .cells #[.iface 147 (.agg #[.pointer (some ⟨2, 29, none⟩)])] t frozen
      | o => o }
theorem laid_met (os : Os) : laidMetH Tryd.prog Rows.keepSavesRow.laid ((laidWorld os).forCall (fun _ _ => 0) ⟨#[], #[.agg #[.slice none 0 0, .slice none 0 0, .int .i64 0]], []⟩).memory :=
  laidMetH_of_parts (laidMet_nil _ _) (by kernel_rfl)
theorem reads (os : Os) {H : Type} (enc : TypeId × Value → H) : ∃ places, DataW.whole enc Tryd.prog ((laidWorld os).forCall (fun _ _ => 0) ⟨#[], #[.agg #[.slice none 0 0, .slice none 0 0, .int .i64 0]], []⟩).memory Tryd.f7.params.toList Rows.keepSavesSpec.vars false (#[.agg #[.slice none 0 0, .slice none 0 0, .int .i64 0]] : Array Value).toList 8 = some ([.agg [.nil, .nil, .lit (.int .i64 0)]], [], places) :=
  ⟨[], by kernel_rfl⟩
set_option maxRecDepth 100000 in
set_option maxHeartbeats 1000000 in
theorem contract (H : Type) (enc : TypeId × Value → H) (W : World) (base : Nat) (args : Array Value) (ds gs : List (DataW H)) (before : List MemPlace)
    (hval0 : ∀ (j : Nat) t v, Tryd.f7.params[j]? = some t → args[j]? = some v → Value.okWide Tryd.prog W .any base t v)
    (hW : DataW.Whole enc Tryd.prog Tryd.f7.params.toList Rows.keepSavesSpec.vars false W args.toList ds gs before) (hh : Handle W) :
    Calls Tryd.prog 7 args W fun e W' => ∃ v, e = .returned v ∧ Rows.keepSavesSpec.post enc Tryd.prog Tryd.f7 false true false false W args v W' := by
  have hval := hval0
  have hW' := hW
  obtain ⟨p, q, hA0, hV, rfl, hfz, hnd⟩ := hW
  have hA : DataW.TrodAll enc Tryd.prog W 0 (fun _ => true) true Tryd.f7.params.toList args.toList ds p := hA0
  rw [Tryd.params7] at hA hval
  obtain ⟨v0, vs0, d0, ds0, p0, q0, hargs, rfl, rfl, h0, r0⟩ := trodAll_cons hA
  obtain ⟨rfl, rfl, rfl⟩ := trodAll_nil r0
  obtain rfl : args = #[v0] := by cases args; simp_all
  obtain ⟨rfl, rfl⟩ := trodVars_none hV
  have k0 := h0
  have lt0 : ∀ x ∈ p0, x.block < W.heap.size := by obtain ⟨m, hm⟩ := k0; exact DataW.trod_lt m _ _ _ hm
  obtain ⟨a0, w0⟩ := open_galley_galleyref1_State (hval 0 61 v0 rfl rfl) h0
  clear hA0 hval0
  refine (walk a0 v0 W w0 hh).mono fun e W' ⟨he, bel⟩ => ?_
  subst he
  exact ⟨_, rfl, _, _, _, [], _, [], hW', trodAll_mk1 (shut_bool Tryd.underlying4 _), (trodAll_cons_mk (Below.trod laidOut (by kernel_rfl) (of_decide_eq_true (by kernel_rfl)) k0 bel lt0) trodAll_mk0), rfl, bel.frame _, fun h => by cases h⟩

set_option maxRecDepth 100000 in
theorem lifted (os : Os) (started : os.Started) (H : Type) (enc : TypeId × Value → H) (F : Stop.Interp) :
    ReturnsInHanded {} Tryd.checked os 7 .any ((OpenSpec.ofChange Rows.keepSavesSpec).preRow enc Tryd.prog Tryd.f7 Rows.keepSavesRow.domain false Rows.keepSavesRow.laid) (((OpenSpec.ofChange Rows.keepSavesSpec).at F).post enc Tryd.prog Tryd.f7 false true false false) := by
  obtain ⟨places, hx⟩ := reads os enc
  refine returnsInHanded_of_row (C := Tryd.checked) (s := OpenSpec.ofChange Rows.keepSavesSpec) own started (by kernel_rfl) Tryd.func7
    (witness_row_at (enc := enc) (C := Tryd.checked) false (laidWorld os) #[.agg #[.slice none 0 0, .slice none 0 0, .int .i64 0]] rfl (by kernel_rfl) (by kernel_rfl) (by kernel_rfl)
      (OpenSpec.preRow_of_cond 8 hx (by kernel_rfl) (fun k hk => by cases hk) (by kernel_rfl) (laid_met os))) ?_
  intro W base args ds gs before hval hW _ _ _ hL _ _
  exact contract H enc W base args ds gs before hval hW (handle_of_laid hL)

theorem said : Rows.KeepSavesSaid :=
  OpenClaim.holds_of_cond 7 Tryd.f7 rfl rfl rfl rfl rfl rfl rfl ⟨rfl, rfl, rfl, rfl, rfl⟩ rfl rfl rfl rfl rfl (by kernel_rfl) Tryd.func7 (by kernel_rfl)
    (of_decide_eq_true (by kernel_rfl)) (by unfold Func.isWrapper; first | (rw [if_pos (by decide +kernel)]; kernel_rfl) | (rw [if_neg (by decide +kernel)]; exact ⟨rfl, rfl⟩))
    (fun os started H enc _ F => by rw [OpenClaim.pre_eq_preRow]; exact lifted os started H enc F)
theorem plain (f : FuncId) (fn : Func) (hf : Tryd.pinned.checked.prog.funcNamed Rows.keepSavesRow.func = some f) (hfn : Tryd.pinned.checked.prog.funcs[f]? = some fn) :
    Rows.keepSavesCard.stood.looks = Tryd.pinned.checked.prog.looks [] ∧ ∀ (j : Nat) t, fn.params[j]? = some t → Tryd.pinned.checked.prog.wantsStandIn t = false := by
  obtain rfl : f = 7 := Option.some.inj ((show Tryd.prog.funcNamed Rows.keepSavesRow.func = some 7 by kernel_rfl).symm.trans hf) |>.symm
  obtain rfl : fn = Tryd.f7 := (Option.some.inj (Tryd.func7.symm.trans hfn)).symm
  refine ⟨by kernel_rfl, fun j t ht => ?_⟩
  rw [Tryd.params7] at ht
  have hm := Array.mem_of_getElem? ht
  have hc : t = 61 := by simpa using hm
  rcases hc with rfl
  · exact (show Tryd.prog.wantsStandIn 61 = false by kernel_rfl)
theorem proved : Rows.KeepSavesCardSaid :=
  Claim7.holds_tied_plain_at .later [] _ _ _ _ said (fun _ h => by cases h) (by kernel_rfl) (fun _ h => by cases h) keepSaves_row_tie rfl ⟨rfl, rfl⟩ (by kernel_rfl) rfl plain (by kernel_rfl)
#print axioms proved

end Go.Proofs.YtgknjikjjklaiaaDoor.lawKeepSaves
