/- WireEncodes: any message as bytes is the document's: the law returns true, and the input reads as it did. No condition. -/
import Derived.Test.YtgknjikjjklaiaaDoorCards
import Derived.Test.YtgknjikjjklaiaaDoorTie
import Derived.Test.YtgknjikjjklaiaaDoorRWire2
import Derived.Test.YtgknjikjjklaiaaDoorOpenM
import Derived.Test.YtgknjikjjklaiaaDoorTold
import Derived.Deep.DeepHandedRow
set_option linter.unusedVariables false
set_option linter.unusedSimpArgs false
set_option linter.unusedSectionVars false
set_option maxRecDepth 100000
namespace Go.Proofs.YtgknjikjjklaiaaDoor.lawWireEncodes
open Go.ChangeShapes Go.WideShapes Go.ChangeAt Go.RowKit Gal
set_option maxHeartbeats 8000000
theorem walk (m : MsgD) (v : Value) (w : World) (hm : MsgV w v m) (hh : Handle w) :
    Calls Tryd.prog 3 #[v] w fun e w' => e = .returned (.bool true) ∧ Below w.heap.size w w' := by
  obtain ⟨a, n, k, b, o, rfl, hm⟩ := hm
  obtain ⟨V, hV⟩ : ∃ V, msgFault m = V := ⟨_, rfl⟩
  have HV := Lib.hid hV
  obtain ⟨ob, hob⟩ : ∃ ob : Obj, Obj.cells #[.int .i64 m.kind, .int .i64 m.micro, .int .i64 m.body.rows, .int .i64 m.body.cols, .slice a n k] 26 = ob := ⟨_, rfl⟩
  obtain ⟨wz, hwz⟩ : ∃ wz, w.alloc ob = wz := ⟨_, rfl⟩
  have hbz : Below w.heap.size w wz := by rw [← hwz]; exact (by repeat (first | fail | (with_reducible exact Below.refl _ _) | (with_reducible refine Below.al ?_ _) | (with_reducible refine Below.drN ?_ _) | (with_reducible refine Below.drew ?_) | (with_reducible refine Below.st ?_ ?_ _; rotate_left 1; (first | (dsimp only; omega) | omega | (simp; omega) | simp)) | exact Below.refl _ _))
  have hbx : Box wz w.heap.size [.int .i64 m.kind, .int .i64 m.micro, .int .i64 m.body.rows, .int .i64 m.body.cols, .slice a n k] 26 := by rw [← hwz, ← hob]; exact Box.new' _ _ [.int .i64 m.kind, .int .i64 m.micro, .int .i64 m.body.rows, .int .i64 m.body.cols, .slice a n k] _ rfl
  have hmz := hm.keep hbz
  have hhz := hh.keep hbz
  have HWZ := Lib.hid hwz
  have HOB := Lib.hid hob
  clear hm hh hwz hob hV
  by_cases hf : V = 0
  · subst hf
    have hct := wireEncode_ok m a n k b o wz hmz HV.out
    have c0 := hbx.cell 0
    have c1 := hbx.cell 1
    have c2 := hbx.cell 2
    have c3 := hbx.cell 3
    have c4 := hbx.cell 4
    go_enter Tryd.func3, Tryd.ntmps3
    go_wp2_with fail
    rw [HOB.out, HWZ.out]
    refine hct.mono ?_
    rintro e w1 ⟨v1, rfl, hown1, hb1⟩
    obtain ⟨a1, k1, b1, hv, _, hr1⟩ := hown1.row (G := anyB) (fun _ _ _ => trivial) (fun _ _ => trivial)
    subst hv
    replace hbx := hbx.keep hb1
    replace hmz := hmz.keep hb1
    replace hhz := hhz.keep hb1
    have d0 := hbx.cell 0
    have d1 := hbx.cell 1
    have d2 := hbx.cell 2
    have d3 := hbx.cell 3
    have d4 := hbx.cell 4
    clear c0 c1 c2 c3 c4 hown1 hct
    go_wp2_with fail
    refine (refMsgFault_any m a n k b o _ hmz).mono ?_
    rintro e w2 ⟨rfl, hb2⟩
    rw [HV.out]
    replace hbx := hbx.keep hb2
    replace hmz := hmz.keep hb2
    replace hhz := hhz.keep hb2
    replace hr1 := hr1.keep hb2
    go_wp2_with fail
    refine (error_any 0 0 _ hhz).mono ?_
    rintro e w3 ⟨rfl, hb3⟩
    rw [decide_eq_true rfl]
    replace hbx := hbx.keep hb3
    replace hmz := hmz.keep hb3
    replace hr1 := hr1.keep hb3
    have e0 := hbx.cell 0
    have e1 := hbx.cell 1
    have e2 := hbx.cell 2
    have e3 := hbx.cell 3
    have e4 := hbx.cell 4
    clear d0 d1 d2 d3 d4
    go_wp2_with fail
    refine (refMsgOf_ok m a n k b o _ hmz HV.out).mono ?_
    rintro e w4 ⟨v2, rfl, hown2, hb4⟩
    obtain ⟨a2, k2, b2, hv, _, hr2⟩ := hown2.row (G := anyB) (fun _ _ _ => trivial) (fun _ _ => trivial)
    subst hv
    replace hr1 := hr1.keep hb4
    clear e0 e1 e2 e3 e4 hown2
    go_wp2_with fail
    refine (refOctets_same (msgBytes m) a1 a2 _ k1 b1 0 k2 b2 0 anyB anyB _ hr1 hr2).mono ?_
    rintro e w5 ⟨rfl, hb5⟩
    have hfin : Below w.heap.size w w5 := (by repeat (first | fail | (with_reducible exact Below.refl _ _) | (with_reducible exact hbz) | (with_reducible refine Below.al ?_ _) | (with_reducible refine Below.drN ?_ _) | (with_reducible refine Below.drew ?_) | (with_reducible refine Below.st ?_ ?_ _; rotate_left 1; (first | (dsimp only; omega) | omega | (simp; omega) | simp)) | (with_reducible refine Below.go ?_ hb5) | (with_reducible refine Below.go ?_ hb4) | (with_reducible refine Below.go ?_ hb3) | (with_reducible refine Below.go ?_ hb2) | (with_reducible refine Below.go ?_ hb1) | exact Below.refl _ _ | exact hbz))
    clear hr1 hr2 hb1 hb2 hb3 hb4 hb5
    go_wp2
    go_ret
    exact ⟨rfl, hfin⟩
  · have hct := wireEncode_bad m a n k b o wz hmz (by rw [HV.out]; exact hf)
    rw [HV.out] at hct
    have e1 : (V != 0) = true := by simp [hf]
    have c0 := hbx.cell 0
    have c1 := hbx.cell 1
    have c2 := hbx.cell 2
    have c3 := hbx.cell 3
    have c4 := hbx.cell 4
    clear hf
    go_enter Tryd.func3, Tryd.ntmps3
    go_wp2_with fail
    rw [HOB.out, HWZ.out]
    refine hct.mono ?_
    rintro e w1 ⟨rfl, hb1⟩
    replace hbx := hbx.keep hb1
    replace hmz := hmz.keep hb1
    replace hhz := hhz.keep hb1
    have d0 := hbx.cell 0
    have d1 := hbx.cell 1
    have d2 := hbx.cell 2
    have d3 := hbx.cell 3
    have d4 := hbx.cell 4
    clear c0 c1 c2 c3 c4 hct
    go_wp2_with fail
    refine (refMsgFault_any m a n k b o _ hmz).mono ?_
    rintro e w2 ⟨rfl, hb2⟩
    rw [HV.out]
    replace hhz := hhz.keep hb2
    go_wp2_with fail
    refine (error_any V V _ hhz).mono ?_
    rintro e w3 ⟨rfl, hb3⟩
    rw [decide_eq_true rfl]
    have hfin : Below w.heap.size w w3 := (by repeat (first | fail | (with_reducible exact Below.refl _ _) | (with_reducible exact hbz) | (with_reducible refine Below.al ?_ _) | (with_reducible refine Below.drN ?_ _) | (with_reducible refine Below.drew ?_) | (with_reducible refine Below.st ?_ ?_ _; rotate_left 1; (first | (dsimp only; omega) | omega | (simp; omega) | simp)) | (with_reducible refine Below.go ?_ hb3) | (with_reducible refine Below.go ?_ hb2) | (with_reducible refine Below.go ?_ hb1) | exact Below.refl _ _ | exact hbz))
    clear hb1 hb2 hb3
    go_wp2
    go_ret
    exact ⟨rfl, hfin⟩

theorem own : ownKnob Tryd.prog.godebug = none := by kernel_rfl
theorem laidOut : laidOutB Tryd.prog = true := by kernel_rfl
theorem et : Tryd.prog.globalNamed "errors.errorType" = some 1 := by kernel_rfl
theorem rt : (Tryd.prog.cutTypes.find? (·.1 == "internal/reflectlite.rtype")).map (·.2) = some 147 := by kernel_rfl
theorem oneRow : ((List.range 205).filter fun t => Tryd.prog.rowNamed t [101, 114, 114, 111, 114]) = [29] := by kernel_rfl
theorem tsize : Tryd.prog.types.size = 205 := by kernel_rfl
theorem handle_of_laid {W : World} (h : laidMetH Tryd.prog Rows.wireEncodesRow.laid W) : Handle W := by
  have h' : laidMet Tryd.prog [] W ∧ handlesMet Tryd.prog Rows.wireEncodesRow.laid W := h
  obtain ⟨name, u, ty, e1, e2, e3, e4, e5⟩ := h'.2 _ (List.mem_singleton.2 rfl)
  have en : name = [101, 114, 114, 111, 114] := (Option.some.inj e1).symm
  subst en
  obtain rfl := Option.some.inj (rt.symm.trans e2)
  have hm : ty ∈ (List.range 205).filter fun t => Tryd.prog.rowNamed t [101, 114, 114, 111, 114] := List.mem_filter.2 ⟨List.mem_range.2 (by rw [← tsize]; exact e3), e4⟩
  rw [oneRow] at hm
  obtain rfl := List.mem_singleton.1 hm
  have hh : typeHandle Tryd.prog 29 = .pointer (some ⟨2, 29, none⟩) := by kernel_rfl
  rw [hh] at e5
  simpa [Handle, handleV] using World.var?_cell et e5 0
noncomputable def laidWorld (os : Os) : World :=
  { World.holding Tryd.prog os ⟨#[], #[], []⟩ with heap := (World.holding Tryd.prog os ⟨#[], #[], []⟩).heap.modify 1 fun
      | .cells _ t frozen => .cells #[.iface 147 (.agg #[.pointer (some ⟨2, 29, none⟩)])] t frozen
      | o => o }
theorem laid_met (os : Os) : laidMetH Tryd.prog Rows.wireEncodesRow.laid ((laidWorld os).forCall (fun _ _ => 0) ⟨#[], #[.agg #[.int .i64 0, .int .i64 0, .int .i64 0, .int .i64 0, .slice none 0 0]], []⟩).memory :=
  laidMetH_of_parts (laidMet_nil _ _) (by kernel_rfl)
theorem reads (os : Os) {H : Type} (enc : TypeId × Value → H) : ∃ places, DataW.whole enc Tryd.prog ((laidWorld os).forCall (fun _ _ => 0) ⟨#[], #[.agg #[.int .i64 0, .int .i64 0, .int .i64 0, .int .i64 0, .slice none 0 0]], []⟩).memory Tryd.f3.params.toList Rows.wireEncodesSpec.vars false (#[.agg #[.int .i64 0, .int .i64 0, .int .i64 0, .int .i64 0, .slice none 0 0]] : Array Value).toList 8 = some ([.agg [.lit (.int .i64 0), .lit (.int .i64 0), .agg [.lit (.int .i64 0), .lit (.int .i64 0), .nil]]], [], places) :=
  ⟨[], by kernel_rfl⟩
set_option maxRecDepth 100000 in
set_option maxHeartbeats 1000000 in
theorem contract (H : Type) (enc : TypeId × Value → H) (W : World) (base : Nat) (args : Array Value) (ds gs : List (DataW H)) (before : List MemPlace)
    (hval0 : ∀ (j : Nat) t v, Tryd.f3.params[j]? = some t → args[j]? = some v → Value.okWide Tryd.prog W .any base t v)
    (hW : DataW.Whole enc Tryd.prog Tryd.f3.params.toList Rows.wireEncodesSpec.vars false W args.toList ds gs before) (hh : Handle W) :
    Calls Tryd.prog 3 args W fun e W' => ∃ v, e = .returned v ∧ Rows.wireEncodesSpec.post enc Tryd.prog Tryd.f3 false true false false W args v W' := by
  have hval := hval0
  have hW' := hW
  obtain ⟨p, q, hA0, hV, rfl, hfz, hnd⟩ := hW
  have hA : DataW.TrodAll enc Tryd.prog W 0 (fun _ => true) true Tryd.f3.params.toList args.toList ds p := hA0
  rw [Tryd.params3] at hA hval
  obtain ⟨v0, vs0, d0, ds0, p0, q0, hargs, rfl, rfl, h0, r0⟩ := trodAll_cons hA
  obtain ⟨rfl, rfl, rfl⟩ := trodAll_nil r0
  obtain rfl : args = #[v0] := by cases args; simp_all
  obtain ⟨rfl, rfl⟩ := trodVars_none hV
  have k0 := h0
  have lt0 : ∀ x ∈ p0, x.block < W.heap.size := by obtain ⟨m, hm⟩ := k0; exact DataW.trod_lt m _ _ _ hm
  obtain ⟨a0, w0⟩ := open_Message (hval 0 26 v0 rfl rfl) h0
  clear hA0 hval0
  refine (walk a0 v0 W w0 hh).mono fun e W' ⟨he, bel⟩ => ?_
  subst he
  exact ⟨_, rfl, _, _, _, [], _, [], hW', trodAll_mk1 (shut_bool Tryd.underlying4 _), (trodAll_cons_mk (Below.trod laidOut (by kernel_rfl) (of_decide_eq_true (by kernel_rfl)) k0 bel lt0) trodAll_mk0), rfl, bel.frame _, fun h => by cases h⟩

set_option maxRecDepth 100000 in
theorem lifted (os : Os) (started : os.Started) (H : Type) (enc : TypeId × Value → H) (F : Stop.Interp) :
    ReturnsInHanded {} Tryd.checked os 3 .any ((OpenSpec.ofChange Rows.wireEncodesSpec).preRow enc Tryd.prog Tryd.f3 Rows.wireEncodesRow.domain false Rows.wireEncodesRow.laid) (((OpenSpec.ofChange Rows.wireEncodesSpec).at F).post enc Tryd.prog Tryd.f3 false true false false) := by
  obtain ⟨places, hx⟩ := reads os enc
  refine returnsInHanded_of_row (C := Tryd.checked) (s := OpenSpec.ofChange Rows.wireEncodesSpec) own started (by kernel_rfl) Tryd.func3
    (witness_row_at (enc := enc) (C := Tryd.checked) false (laidWorld os) #[.agg #[.int .i64 0, .int .i64 0, .int .i64 0, .int .i64 0, .slice none 0 0]] rfl (by kernel_rfl) (by kernel_rfl) (by kernel_rfl)
      (OpenSpec.preRow_of_cond 8 hx (by kernel_rfl) (fun k hk => by cases hk) (by kernel_rfl) (laid_met os))) ?_
  intro W base args ds gs before hval hW _ _ _ hL _ _
  exact contract H enc W base args ds gs before hval hW (handle_of_laid hL)

theorem said : Rows.WireEncodesSaid :=
  OpenClaim.holds_of_cond 3 Tryd.f3 rfl rfl rfl rfl rfl rfl rfl ⟨rfl, rfl, rfl, rfl, rfl⟩ rfl rfl rfl rfl rfl (by kernel_rfl) Tryd.func3 (by kernel_rfl)
    (of_decide_eq_true (by kernel_rfl)) (by unfold Func.isWrapper; first | (rw [if_pos (by decide +kernel)]; kernel_rfl) | (rw [if_neg (by decide +kernel)]; exact ⟨rfl, rfl⟩))
    (fun os started H enc _ F => by rw [OpenClaim.pre_eq_preRow]; exact lifted os started H enc F)
theorem plain (f : FuncId) (fn : Func) (hf : Tryd.pinned.checked.prog.funcNamed Rows.wireEncodesRow.func = some f) (hfn : Tryd.pinned.checked.prog.funcs[f]? = some fn) :
    Rows.wireEncodesCard.stood.looks = Tryd.pinned.checked.prog.looks [] ∧ ∀ (j : Nat) t, fn.params[j]? = some t → Tryd.pinned.checked.prog.wantsStandIn t = false := by
  obtain rfl : f = 3 := Option.some.inj ((show Tryd.prog.funcNamed Rows.wireEncodesRow.func = some 3 by kernel_rfl).symm.trans hf) |>.symm
  obtain rfl : fn = Tryd.f3 := (Option.some.inj (Tryd.func3.symm.trans hfn)).symm
  refine ⟨by kernel_rfl, fun j t ht => ?_⟩
  rw [Tryd.params3] at ht
  have hm := Array.mem_of_getElem? ht
  have hc : t = 26 := by simpa using hm
  rcases hc with rfl
  · exact (show Tryd.prog.wantsStandIn 26 = false by kernel_rfl)
theorem proved : Rows.WireEncodesCardSaid :=
  Claim7.holds_tied_plain_at .later [] _ _ _ _ said (fun _ h => by cases h) (by kernel_rfl) (fun _ h => by cases h) wireEncodes_row_tie rfl ⟨rfl, rfl⟩ (by kernel_rfl) rfl plain (by kernel_rfl)
#print axioms proved

end Go.Proofs.YtgknjikjjklaiaaDoor.lawWireEncodes
