/- KeepLoads: any bytes as a state, or none, are the document's: the law returns true. No condition. -/
import Derived.Test.YtgknjikjjklaiaaDoorCards
import Derived.Test.YtgknjikjjklaiaaDoorTie
import Derived.Test.YtgknjikjjklaiaaDoorKeep6
import Derived.Test.YtgknjikjjklaiaaDoorRKeep4
import Derived.Test.YtgknjikjjklaiaaDoorStaLaw
import Derived.Test.YtgknjikjjklaiaaDoorOpenM
import Derived.Test.YtgknjikjjklaiaaDoorTold
import Derived.LaidMore
import Derived.Stop.LaidErr
import Derived.Deep.DeepHandedRow
import Derived.Deep.DeepWitnessRowRef
set_option linter.unusedVariables false
set_option linter.unusedSimpArgs false
set_option linter.unusedSectionVars false
set_option maxRecDepth 100000
namespace Go.Proofs.YtgknjikjjklaiaaDoor.lawKeepLoads
open Go.ChangeShapes Go.WideShapes Go.ChangeAt Go.RowKit Gal
set_option maxHeartbeats 8000000
theorem StaV.keep {w w' : World} {v : Value} {s : Sta} (h : StaV w v s) (hb : Below w.heap.size w w') : StaV w' v s := by
  obtain ⟨a0, n, k0, b0, o0, a1, n1, k1, b1, o1, rfl, h0, h1⟩ := h
  exact ⟨a0, n, k0, b0, o0, a1, n1, k1, b1, o1, rfl, h0.keep hb, h1.keep hb⟩
theorem walk (xs : List Nat) (v : Value) (w : World) (hx : BytesV w v xs) (hh : Handle w) (ss : ∃ a, w.cell? ⟨0, 0, none⟩ = some (.iface 169 (.pointer (some a)))) :
    Calls Tryd.prog 8 #[v] w fun e w' => e = .returned (.bool true) ∧ Below w.heap.size w w' := by
  obtain ⟨a, n, k, b, o, rfl, hr⟩ := hx
  obtain ⟨A, hg⟩ := ss
  have HR := Lib.hid hr
  go_enter Tryd.func8, Tryd.ntmps8
  go_wp2_with fail
  refine (keepLoad_any xs a n k b o A _ hr hg).mono ?_
  rintro e w1 ⟨hb1, hd⟩
  clear hg
  have hkw1 : Below w.heap.size w w1 := (by repeat (first | fail | (with_reducible exact Below.refl _ _) | (with_reducible refine Below.al ?_ _) | (with_reducible refine Below.drN ?_ _) | (with_reducible refine Below.drew ?_) | (with_reducible refine Below.st ?_ ?_ _; rotate_left 1; (first | (dsimp only; omega) | omega | (simp; omega) | simp)) | (with_reducible refine Below.go ?_ hb1) | exact Below.refl _ _))
  replace hr := hr.keep hkw1
  replace hh := hh.keep hkw1
  have hsw1 := hkw1.size
  rcases hd with ⟨hs1, rfl⟩ | ⟨s, u, hs1, rfl, hsv⟩
  · rw [show errV 7 = .iface 32 (.int .i64 7) from errV_err (by decide)]
    have HS1 := Lib.hid hs1
    clear hs1
    go_wp2_with fail
    refine (refLoadOf_any xs a n k b o _ (hr.alloc _)).mono ?_
    rintro e w2 ⟨hb2, hd2⟩
    have B3 := (Box.new w1 [.slice none 0 0, .slice none 0 0, .int .i64 0] 62).keep hb2
    have B3c := B3.cell
    have B3f := B3.thawed
    have B3z := B3.lt
    have B3k := lt_add B3z
    have hkw2 : Below w1.heap.size w1 w2 := (by repeat (first | fail | (with_reducible exact Below.refl _ _) | (with_reducible refine Below.al ?_ _) | (with_reducible refine Below.drN ?_ _) | (with_reducible refine Below.drew ?_) | (with_reducible refine Below.st ?_ ?_ _; rotate_left 1; (first | (dsimp only; omega) | omega | (simp; omega) | simp)) | (with_reducible refine Below.go ?_ hb2) | exact Below.refl _ _))
    replace hh := hh.keep hkw2
    have hsw2 := hkw2.size
    rcases hd2 with ⟨hs2, rfl⟩ | ⟨s, u, hs2, rfl, hsv⟩
    · clear hs2 hr
      go_wp2_with fail
      refine (lawState_any 0 none none 0 0 0 0 _).mono ?_
      rintro e w3 ⟨rfl, hb3⟩
      have hkw3 : Below w2.heap.size w2 w3 := (by repeat (first | fail | (with_reducible exact Below.refl _ _) | (with_reducible refine Below.al ?_ _) | (with_reducible refine Below.drN ?_ _) | (with_reducible refine Below.drew ?_) | (with_reducible refine Below.st ?_ ?_ _; rotate_left 1; (first | (dsimp only; omega) | omega | (simp; omega) | simp)) | (with_reducible refine Below.go ?_ hb3) | exact Below.refl _ _))
      replace B3 := B3.keep hkw3
      replace B3c := B3.cell
      replace B3f := B3.thawed
      replace B3z := B3.lt
      replace B3k := lt_add B3z
      replace hh := hh.keep hkw3
      have hsw3 := hkw3.size
      go_wp2_with fail
      refine (states_same ⟨[], [], 0⟩ _ _ _ ⟨none, 0, 0, 0, 0, none, 0, 0, 0, 0, rfl, RowAt.nil _ _ _, RowAt.nil _ _ _⟩ ⟨none, 0, 0, 0, 0, none, 0, 0, 0, 0, rfl, RowAt.nil _ _ _, RowAt.nil _ _ _⟩).mono ?_
      rintro e w4 ⟨rfl, hb4⟩
      have hkw4 : Below w3.heap.size w3 w4 := (by repeat (first | fail | (with_reducible exact Below.refl _ _) | (with_reducible refine Below.al ?_ _) | (with_reducible refine Below.drN ?_ _) | (with_reducible refine Below.drew ?_) | (with_reducible refine Below.st ?_ ?_ _; rotate_left 1; (first | (dsimp only; omega) | omega | (simp; omega) | simp)) | (with_reducible refine Below.go ?_ hb4) | exact Below.refl _ _))
      replace hh := hh.keep hkw4
      have hsw4 := hkw4.size
      have hbw4 : Below w.heap.size w w4 := (by repeat (first | fail | (with_reducible exact Below.refl _ _) | (with_reducible refine Below.al ?_ _) | (with_reducible refine Below.drN ?_ _) | (with_reducible refine Below.drew ?_) | (with_reducible refine Below.st ?_ ?_ _; rotate_left 1; (first | (dsimp only; omega) | omega | (simp; omega) | simp)) | (with_reducible refine Below.go ?_ hb4) | (with_reducible refine Below.go ?_ hb3) | (with_reducible refine Below.go ?_ hb2) | (with_reducible refine Below.go ?_ hb1) | exact Below.refl _ _))
      have her := error_any 7 7 _ hh
      rw [show errV 7 = .iface 32 (.int .i64 7) from errV_err (by decide)] at her
      go_wp2_with fail
      refine (her).mono ?_
      rintro e w5 ⟨rfl, hb5⟩
      try rw [show decide ((7 : Int) = 7) = true from rfl]
      have hbe : Below w.heap.size w w5 := (by repeat (first | fail | (with_reducible exact Below.refl _ _) | (with_reducible exact hbw4) | (with_reducible refine Below.al ?_ _) | (with_reducible refine Below.drN ?_ _) | (with_reducible refine Below.drew ?_) | (with_reducible refine Below.st ?_ ?_ _; rotate_left 1; (first | (dsimp only; omega) | omega | (simp; omega) | simp)) | (with_reducible refine Below.go ?_ hb5) | exact Below.refl _ _ | exact hbw4))
      go_wp2
      go_ret
      exact ⟨rfl, hbe⟩
    · rw [HS1.out] at hs2; cases hs2
  · have HS1 := Lib.hid hs1
    clear hs1
    obtain ⟨a0, n0, k0, b0, o0, a1, n1, k1, b1, o1, rfl, h0, h1⟩ := hsv
    obtain ⟨z, hz⟩ : ∃ z, s.steps = z := ⟨_, rfl⟩
    have HZ := Lib.hid hz
    rw [hz]
    clear hz
    go_wp2_with fail
    refine (refLoadOf_any xs a n k b o _ (hr.alloc _)).mono ?_
    rintro e w2 ⟨hb2, hd2⟩
    have B3 := (Box.new w1 [.slice a0 n0 k0, .slice a1 n1 k1, .int .i64 z] 62).keep hb2
    have B3c := B3.cell
    have B3f := B3.thawed
    have B3z := B3.lt
    have B3k := lt_add B3z
    have hkw2 : Below w1.heap.size w1 w2 := (by repeat (first | fail | (with_reducible exact Below.refl _ _) | (with_reducible refine Below.al ?_ _) | (with_reducible refine Below.drN ?_ _) | (with_reducible refine Below.drew ?_) | (with_reducible refine Below.st ?_ ?_ _; rotate_left 1; (first | (dsimp only; omega) | omega | (simp; omega) | simp)) | (with_reducible refine Below.go ?_ hb2) | exact Below.refl _ _))
    replace hh := hh.keep hkw2
    replace h0 := h0.keep hkw2
    replace h1 := h1.keep hkw2
    have hsw2 := hkw2.size
    rcases hd2 with ⟨hs2, rfl⟩ | ⟨s', u', hs2, rfl, hsv2⟩
    · rw [HS1.out] at hs2; cases hs2
    · rw [HS1.out] at hs2
      obtain rfl := Option.some.inj hs2
      obtain ⟨a2, n2, k2, b2, o2, a3, n3, k3, b3, o3, rfl, h2, h3⟩ := hsv2
      rw [HZ.out]
      clear hs2 hr
      go_wp2_with fail
      refine (lawState_any z a2 a3 n2 n3 k2 k3 _).mono ?_
      rintro e w3 ⟨rfl, hb3⟩
      have hkw3 : Below w2.heap.size w2 w3 := (by repeat (first | fail | (with_reducible exact Below.refl _ _) | (with_reducible refine Below.al ?_ _) | (with_reducible refine Below.drN ?_ _) | (with_reducible refine Below.drew ?_) | (with_reducible refine Below.st ?_ ?_ _; rotate_left 1; (first | (dsimp only; omega) | omega | (simp; omega) | simp)) | (with_reducible refine Below.go ?_ hb3) | exact Below.refl _ _))
      replace B3 := B3.keep hkw3
      replace B3c := B3.cell
      replace B3f := B3.thawed
      replace B3z := B3.lt
      replace B3k := lt_add B3z
      replace h0 := h0.keep hkw3
      replace h1 := h1.keep hkw3
      have hsw3 := hkw3.size
      have h2' : RowAt Form.lay w3 anyB a2 n2 k2 b2 o2 s.N := (h2.alloc _).keep hb3
      have h3' : RowAt Form.grd w3 anyB a3 n3 k3 b3 o3 s.V := (h3.alloc _).keep hb3
      clear h2 h3
      go_wp2_with fail
      refine (states_same s _ _ _ ⟨a0, n0, k0, b0, o0, a1, n1, k1, b1, o1, by rw [HZ.out], h0.alloc _, h1.alloc _⟩ ⟨a2, n2, k2, b2, o2, a3, n3, k3, b3, o3, by rw [HZ.out], h2'.alloc _, h3'.alloc _⟩).mono ?_
      rintro e w4 ⟨rfl, hb4⟩
      have hbe : Below w.heap.size w w4 := (by repeat (first | fail | (with_reducible exact Below.refl _ _) | (with_reducible exact hb1) | (with_reducible refine Below.al ?_ _) | (with_reducible refine Below.drN ?_ _) | (with_reducible refine Below.drew ?_) | (with_reducible refine Below.st ?_ ?_ _; rotate_left 1; (first | (dsimp only; omega) | omega | (simp; omega) | simp)) | (with_reducible refine Below.go ?_ hb4) | (with_reducible refine Below.go ?_ hb3) | (with_reducible refine Below.go ?_ hb2) | exact Below.refl _ _ | exact hb1))
      clear h0 h1 h2' h3'
      go_wp2
      go_ret
      exact ⟨rfl, hbe⟩

theorem own : ownKnob Tryd.prog.godebug = none := by kernel_rfl
theorem laidOut : laidOutB Tryd.prog = true := by kernel_rfl
theorem et : Tryd.prog.globalNamed "errors.errorType" = some 1 := by kernel_rfl
theorem rt : (Tryd.prog.cutTypes.find? (·.1 == "internal/reflectlite.rtype")).map (·.2) = some 147 := by kernel_rfl
theorem oneRow : ((List.range 205).filter fun t => Tryd.prog.rowNamed t [101, 114, 114, 111, 114]) = [29] := by kernel_rfl
theorem tsize : Tryd.prog.types.size = 205 := by kernel_rfl
theorem handle_of_laid {W : World} (h : laidMetH Tryd.prog Rows.keepLoadsRow.laid W) : Handle W := by
  have h' : laidMet Tryd.prog [("galley/keep.errShort", Rows.laid_galley_keep_errShort)] W ∧ handlesMet Tryd.prog [("errors.errorType", Rows.laid_errors_errorType)] W := h
  obtain ⟨name, u, ty, e1, e2, e3, e4, e5⟩ := h'.2 _ (List.mem_singleton.2 rfl)
  have en : name = [101, 114, 114, 111, 114] := (Option.some.inj e1).symm
  subst en
  obtain rfl := Option.some.inj (rt.symm.trans e2)
  have hm : ty ∈ (List.range 205).filter fun t => Tryd.prog.rowNamed t [101, 114, 114, 111, 114] := List.mem_filter.2 ⟨List.mem_range.2 (by rw [← tsize]; exact e3), e4⟩
  rw [oneRow] at hm
  obtain rfl := List.mem_singleton.1 hm
  have hh : typeHandle Tryd.prog 29 = .pointer (some ⟨2, 29, none⟩) := by kernel_rfl
  rw [hh] at e5
  simpa [Handle, handleV] using World.var?_cell et e5 0
theorem star : "*" ++ "errors.errorString" = "*errors.errorString" := by decide
theorem rowp (u : TypeId) (h : Tryd.prog.typeName? 3 u = some "*errors.errorString") : u = 169 :=
  typeName_ptr_named (nm := "errors.errorString") (by rw [star]; kernel_rfl) (by kernel_rfl) (by decide) u (by rw [star]; exact h)
theorem short_of_laid {W : World} (h : laidMetH Tryd.prog Rows.keepLoadsRow.laid W) : ∃ a, W.cell? ⟨0, 0, none⟩ = some (.iface 169 (.pointer (some a))) := by
  have h' : laidMet Tryd.prog [("galley/keep.errShort", Rows.laid_galley_keep_errShort)] W ∧ handlesMet Tryd.prog [("errors.errorType", Rows.laid_errors_errorType)] W := h
  have hg : Tryd.prog.globalNamed "galley/keep.errShort" = some 0 := by kernel_rfl
  obtain ⟨a, s, hv, _⟩ := laid_sentinel h'.1 hg (by kernel_rfl) Tryd.underlying29 rowp Tryd.underlying169 Tryd.underlying193 rfl rfl Tryd.underlying9 (by kernel_rfl) (by kernel_rfl)
  exact ⟨a, by simpa using World.var?_cell hg hv 0⟩
theorem laid_met (os : Os) : laidMetH Tryd.prog Rows.keepLoadsRow.laid ((World.doorLaid Tryd.prog 400 os).forCall (fun _ _ => 0) ⟨#[], #[.slice none 0 0], []⟩).memory :=
  laidMetH_of_parts3 (fuel := 8) (laidMet_of_run' 8 (by kernel_rfl) (by kernel_rfl)) (by kernel_rfl) (by kernel_rfl)
theorem reads (os : Os) {H : Type} (enc : TypeId × Value → H) : ∃ places, DataW.whole enc Tryd.prog ((World.doorLaid Tryd.prog 400 os).forCall (fun _ _ => 0) ⟨#[], #[.slice none 0 0], []⟩).memory Tryd.f8.params.toList Rows.keepLoadsSpec.vars false (#[.slice none 0 0] : Array Value).toList 8 = some ([.nil], [], places) :=
  ⟨[], by kernel_rfl⟩
set_option maxRecDepth 100000 in
set_option maxHeartbeats 1000000 in
theorem contract (H : Type) (enc : TypeId × Value → H) (W : World) (base : Nat) (args : Array Value) (ds gs : List (DataW H)) (before : List MemPlace)
    (hval0 : ∀ (j : Nat) t v, Tryd.f8.params[j]? = some t → args[j]? = some v → Value.okWide Tryd.prog W .any base t v)
    (hW : DataW.Whole enc Tryd.prog Tryd.f8.params.toList Rows.keepLoadsSpec.vars false W args.toList ds gs before) (hh : Handle W) (ss : ∃ a, W.cell? ⟨0, 0, none⟩ = some (.iface 169 (.pointer (some a)))) :
    Calls Tryd.prog 8 args W fun e W' => ∃ v, e = .returned v ∧ Rows.keepLoadsSpec.post enc Tryd.prog Tryd.f8 false true false false W args v W' := by
  have hval := hval0
  have hW' := hW
  obtain ⟨p, q, hA0, hV, rfl, hfz, hnd⟩ := hW
  have hA : DataW.TrodAll enc Tryd.prog W 0 (fun _ => true) true Tryd.f8.params.toList args.toList ds p := hA0
  rw [Tryd.params8] at hA hval
  obtain ⟨v0, vs0, d0, ds0, p0, q0, hargs, rfl, rfl, h0, r0⟩ := trodAll_cons hA
  obtain ⟨rfl, rfl, rfl⟩ := trodAll_nil r0
  obtain rfl : args = #[v0] := by cases args; simp_all
  obtain ⟨rfl, rfl⟩ := trodVars_none hV
  have k0 := h0
  have lt0 : ∀ x ∈ p0, x.block < W.heap.size := by obtain ⟨m, hm⟩ := k0; exact DataW.trod_lt m _ _ _ hm
  obtain ⟨a0, w0⟩ := open_luint8 (hval 0 27 v0 rfl rfl) h0
  clear hA0 hval0
  refine (walk a0 v0 W w0 hh ss).mono fun e W' ⟨he, bel⟩ => ?_
  subst he
  exact ⟨_, rfl, _, _, _, [], _, [], hW', trodAll_mk1 (shut_bool Tryd.underlying4 _), (trodAll_cons_mk (Below.trod laidOut (by kernel_rfl) (of_decide_eq_true (by kernel_rfl)) k0 bel lt0) trodAll_mk0), rfl, bel.frame _, fun h => by cases h⟩

set_option maxRecDepth 100000 in
theorem lifted (os : Os) (started : os.Started) (H : Type) (enc : TypeId × Value → H) (F : Stop.Interp) :
    ReturnsInHanded {} Tryd.checked os 8 .any ((OpenSpec.ofChange Rows.keepLoadsSpec).preRow enc Tryd.prog Tryd.f8 Rows.keepLoadsRow.domain false Rows.keepLoadsRow.laid) (((OpenSpec.ofChange Rows.keepLoadsSpec).at F).post enc Tryd.prog Tryd.f8 false true false false) := by
  obtain ⟨places, hx⟩ := reads os enc
  refine returnsInHanded_of_row (C := Tryd.checked) (s := OpenSpec.ofChange Rows.keepLoadsSpec) own started (by kernel_rfl) Tryd.func8
    (witness_row_atRef (enc := enc) (C := Tryd.checked) false (World.doorLaid Tryd.prog 400 os) #[.slice none 0 0] rfl (by kernel_rfl) (by kernel_rfl) (by kernel_rfl)
      (OpenSpec.preRow_of_cond 8 hx (by kernel_rfl) (fun k hk => by cases hk) (by kernel_rfl) (laid_met os))) ?_
  intro W base args ds gs before hval hW _ _ _ hL _ _
  exact contract H enc W base args ds gs before hval hW (handle_of_laid hL) (short_of_laid hL)

theorem said : Rows.KeepLoadsSaid :=
  OpenClaim.holds_of_cond 8 Tryd.f8 rfl rfl rfl rfl rfl rfl rfl ⟨rfl, rfl, rfl, rfl, rfl⟩ rfl rfl rfl rfl rfl (by kernel_rfl) Tryd.func8 (by kernel_rfl)
    (of_decide_eq_true (by kernel_rfl)) (by unfold Func.isWrapper; first | (rw [if_pos (by decide +kernel)]; kernel_rfl) | (rw [if_neg (by decide +kernel)]; exact ⟨rfl, rfl⟩))
    (fun os started H enc _ F => by rw [OpenClaim.pre_eq_preRow]; exact lifted os started H enc F)
theorem plain (f : FuncId) (fn : Func) (hf : Tryd.pinned.checked.prog.funcNamed Rows.keepLoadsRow.func = some f) (hfn : Tryd.pinned.checked.prog.funcs[f]? = some fn) :
    Rows.keepLoadsCard.stood.looks = Tryd.pinned.checked.prog.looks [] ∧ ∀ (j : Nat) t, fn.params[j]? = some t → Tryd.pinned.checked.prog.wantsStandIn t = false := by
  obtain rfl : f = 8 := Option.some.inj ((show Tryd.prog.funcNamed Rows.keepLoadsRow.func = some 8 by kernel_rfl).symm.trans hf) |>.symm
  obtain rfl : fn = Tryd.f8 := (Option.some.inj (Tryd.func8.symm.trans hfn)).symm
  refine ⟨by kernel_rfl, fun j t ht => ?_⟩
  rw [Tryd.params8] at ht
  have hm := Array.mem_of_getElem? ht
  have hc : t = 27 := by simpa using hm
  rcases hc with rfl
  · exact (show Tryd.prog.wantsStandIn 27 = false by kernel_rfl)
theorem proved : Rows.KeepLoadsCardSaid :=
  Claim7.holds_tied_plain_at .later [] _ _ _ _ said (fun _ h => by cases h) (by kernel_rfl) (fun _ h => by cases h) keepLoads_row_tie rfl ⟨rfl, rfl⟩ (by kernel_rfl) rfl plain (by kernel_rfl)
#print axioms proved

end Go.Proofs.YtgknjikjjklaiaaDoor.lawKeepLoads
