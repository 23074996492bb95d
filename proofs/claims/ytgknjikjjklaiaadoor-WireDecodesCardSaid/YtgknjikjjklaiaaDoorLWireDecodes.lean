/- WireDecodes: what Decode reads is what the document reads, and nothing where the document reads nothing: the law returns true. No condition. -/
import Derived.Test.YtgknjikjjklaiaaDoorCards
import Derived.Test.YtgknjikjjklaiaaDoorTie
import Derived.Test.YtgknjikjjklaiaaDoorRWire4
import Derived.Test.YtgknjikjjklaiaaDoorWire4
import Derived.Test.YtgknjikjjklaiaaDoorMsgs
import Derived.Test.YtgknjikjjklaiaaDoorTold
import Derived.Deep.DeepHandedRow
set_option linter.unusedVariables false
set_option linter.unusedSimpArgs false
set_option linter.unusedSectionVars false
set_option maxRecDepth 100000
namespace Go.Proofs.YtgknjikjjklaiaaDoor.lawWireDecodes
open Go.ChangeShapes Go.WideShapes Go.ChangeAt Go.RowKit Gal
set_option maxHeartbeats 8000000
theorem walk (xs : List Nat) (v : Value) (w : World) (hx : BytesV w v xs) (hh : Handle w) :
    Calls Tryd.prog 5 #[v] w fun e w' => e = .returned (.bool true) ∧ Below w.heap.size w w' := by
  obtain ⟨a, n, k, b, o, rfl, hr⟩ := hx
  go_enter Tryd.func5, Tryd.ntmps5
  go_wp2_with fail
  refine (wireDecode_any xs a n k b o anyB _ hr).mono ?_
  rintro e w1 ⟨v1, m1, N1, err, rfl, ⟨a1, n1, k1, b1, o1, rfl, hm1⟩, hb1, hd⟩
  have hkw1 : Below w.heap.size w w1 := (by repeat (first | fail | (with_reducible exact Below.refl _ _) | (with_reducible refine Below.al ?_ _) | (with_reducible refine Below.drN ?_ _) | (with_reducible refine Below.drew ?_) | (with_reducible refine Below.st ?_ ?_ _; rotate_left 1; (first | (dsimp only; omega) | omega | (simp; omega) | simp)) | (with_reducible refine Below.go ?_ hb1) | exact Below.refl _ _))
  replace hr := hr.keep hkw1
  replace hh := hh.keep hkw1
  have hsw1 := hkw1.size
  rcases hd with ⟨hs1, hN1, rfl⟩ | ⟨hs1, rfl, rfl, rfl⟩
  · rw [show errV 0 = .nilIface from errV_nil rfl]
    go_wp2_with fail
    refine (refMessageRead_any xs a n k b o anyB _ (hr.alloc _)).mono ?_
    rintro e w2 ⟨v2, m2, N2, rfl, ⟨a2, n2, k2, b2, o2, rfl, hm2⟩, hb2, hd2⟩
    have B3 := (Box.new w1 [.int .i64 m1.kind, .int .i64 m1.micro, .int .i64 m1.body.rows, .int .i64 m1.body.cols, .slice a1 n1 k1] 26).keep hb2
    have B3c := B3.cell
    have B3f := B3.thawed
    have B3z := B3.lt
    have B3k := lt_add B3z
    have hkw2 : Below w1.heap.size w1 w2 := (by repeat (first | fail | (with_reducible exact Below.refl _ _) | (with_reducible refine Below.al ?_ _) | (with_reducible refine Below.drN ?_ _) | (with_reducible refine Below.drew ?_) | (with_reducible refine Below.st ?_ ?_ _; rotate_left 1; (first | (dsimp only; omega) | omega | (simp; omega) | simp)) | (with_reducible refine Below.go ?_ hb2) | exact Below.refl _ _))
    replace hm1 := hm1.keep hkw2
    have hsw2 := hkw2.size
    rcases hd2 with ⟨hs2, hN2⟩ | ⟨hs2, _, _⟩
    · rw [hs1] at hs2
      simp only [Option.some.injEq, Prod.mk.injEq] at hs2
      obtain ⟨rfl, hN⟩ := hs2
      obtain rfl : N1 = N2 := by omega
      have e1 : (N1 < 0) = False := eq_false (by omega)
      have e2 : (N1 == N1) = true := by simp
      clear hs1 hN1 hN2 hN hr
      go_wp2_with fail
      refine (messages_same m1 _ _ _ ⟨_, _, _, _, _, rfl, hm1.alloc _⟩ ⟨_, _, _, _, _, rfl, hm2.alloc _⟩).mono ?_
      rintro e w3 ⟨rfl, hb3⟩
      have hbe : Below w.heap.size w w3 := (by repeat (first | fail | (with_reducible exact Below.refl _ _) | (with_reducible refine Below.al ?_ _) | (with_reducible refine Below.drN ?_ _) | (with_reducible refine Below.drew ?_) | (with_reducible refine Below.st ?_ ?_ _; rotate_left 1; (first | (dsimp only; omega) | omega | (simp; omega) | simp)) | (with_reducible refine Below.go ?_ hb3) | (with_reducible refine Below.go ?_ hb2) | (with_reducible refine Below.go ?_ hb1) | exact Below.refl _ _))
      clear hm1 hm2
      go_wp2
      go_ret
      exact ⟨rfl, hbe⟩
    · rw [hs1] at hs2; cases hs2
  · dsimp only
    go_wp2_with fail
    refine (refMessageRead_any xs a n k b o anyB _ (hr.alloc _)).mono ?_
    rintro e w2 ⟨v2, m2, N2, rfl, ⟨a2, n2, k2, b2, o2, rfl, hm2⟩, hb2, hd2⟩
    have B3 := (Box.new w1 [.int .i64 0, .int .i64 0, .int .i64 0, .int .i64 0, .slice a1 n1 k1] 26).keep hb2
    have B3c := B3.cell
    have B3f := B3.thawed
    have B3z := B3.lt
    have B3k := lt_add B3z
    have hkw2 : Below w1.heap.size w1 w2 := (by repeat (first | fail | (with_reducible exact Below.refl _ _) | (with_reducible refine Below.al ?_ _) | (with_reducible refine Below.drN ?_ _) | (with_reducible refine Below.drew ?_) | (with_reducible refine Below.st ?_ ?_ _; rotate_left 1; (first | (dsimp only; omega) | omega | (simp; omega) | simp)) | (with_reducible refine Below.go ?_ hb2) | exact Below.refl _ _))
    replace hm1 := hm1.keep hkw2
    replace hh := hh.keep hkw2
    have hsw2 := hkw2.size
    rcases hd2 with ⟨hs2, hN2⟩ | ⟨hs2, rfl, rfl⟩
    · rw [hs1] at hs2; cases hs2
    · clear hs1 hs2 hr
      go_wp2_with fail
      refine (error_any 7 7 _ (hh.alloc _)).mono ?_
      rintro e w3 ⟨rfl, hb3⟩
      rw [show decide ((7 : Int) = 7) = true from rfl]
      have hkw3 : Below w2.heap.size w2 w3 := (by repeat (first | fail | (with_reducible exact Below.refl _ _) | (with_reducible refine Below.al ?_ _) | (with_reducible refine Below.drN ?_ _) | (with_reducible refine Below.drew ?_) | (with_reducible refine Below.st ?_ ?_ _; rotate_left 1; (first | (dsimp only; omega) | omega | (simp; omega) | simp)) | (with_reducible refine Below.go ?_ hb3) | exact Below.refl _ _))
      replace B3 := B3.keep hkw3
      replace B3c := B3.cell
      replace B3f := B3.thawed
      replace B3z := B3.lt
      replace B3k := lt_add B3z
      replace hm1 := hm1.keep hkw3
      have hsw3 := hkw3.size
      go_wp2_with fail
      refine (messages_same ⟨0, 0, ⟨0, 0, []⟩⟩ _ _ _ ⟨_, _, _, _, _, rfl, hm1⟩ ⟨none, 0, 0, 0, 0, rfl, (RowAt.nil Form.int _ anyB).ints⟩).mono ?_
      rintro e w4 ⟨rfl, hb4⟩
      have hbe : Below w.heap.size w w4 := (by repeat (first | fail | (with_reducible exact Below.refl _ _) | (with_reducible exact hb1) | (with_reducible refine Below.al ?_ _) | (with_reducible refine Below.drN ?_ _) | (with_reducible refine Below.drew ?_) | (with_reducible refine Below.st ?_ ?_ _; rotate_left 1; (first | (dsimp only; omega) | omega | (simp; omega) | simp)) | (with_reducible refine Below.go ?_ hb4) | (with_reducible refine Below.go ?_ hb3) | (with_reducible refine Below.go ?_ hb2) | exact Below.refl _ _ | exact hb1))
      clear hm1 hm2
      go_wp2
      go_ret
      exact ⟨rfl, hbe⟩

theorem own : ownKnob Tryd.prog.godebug = none := by kernel_rfl
theorem laidOut : laidOutB Tryd.prog = true := by kernel_rfl
theorem et : Tryd.prog.globalNamed "errors.errorType" = some 1 := by kernel_rfl
theorem rt : (Tryd.prog.cutTypes.find? (·.1 == "internal/reflectlite.rtype")).map (·.2) = some 147 := by kernel_rfl
theorem oneRow : ((List.range 205).filter fun t => Tryd.prog.rowNamed t [101, 114, 114, 111, 114]) = [29] := by kernel_rfl
theorem tsize : Tryd.prog.types.size = 205 := by kernel_rfl
theorem handle_of_laid {W : World} (h : laidMetH Tryd.prog Rows.wireDecodesRow.laid W) : Handle W := by
  have h' : laidMet Tryd.prog [] W ∧ handlesMet Tryd.prog Rows.wireDecodesRow.laid W := h
  obtain ⟨name, u, ty, e1, e2, e3, e4, e5⟩ := h'.2 _ (List.mem_singleton.2 rfl)
  have en : name = [101, 114, 114, 111, 114] := (Option.some.inj e1).symm
  subst en
  obtain rfl := Option.some.inj (rt.symm.trans e2)
  have hm : ty ∈ (List.range 205).filter fun t => Tryd.prog.rowNamed t [101, 114, 114, 111, 114] := List.mem_filter.2 ⟨List.mem_range.2 (by rw [← tsize]; exact e3), e4⟩
  rw [oneRow] at hm
  obtain rfl := List.mem_singleton.1 hm
  have hh : typeHandle Tryd.prog 29 = .pointer (some ⟨2, 29, none⟩) := by kernel_rfl
  rw [hh] at e5
  simpa [Handle, handleV] using World.var?_cell et e5 0
noncomputable def laidWorld (os : Os) : World :=
  { World.holding Tryd.prog os ⟨#[], #[], []⟩ with heap := (World.holding Tryd.prog os ⟨#[], #[], []⟩).heap.modify 1 fun
      | .cells _ t frozen => .cells #[.iface 147 (.agg #[.pointer (some ⟨2, 29, none⟩)])] t frozen
      | o => o }
theorem laid_met (os : Os) : laidMetH Tryd.prog Rows.wireDecodesRow.laid ((laidWorld os).forCall (fun _ _ => 0) ⟨#[], #[.slice none 0 0], []⟩).memory :=
  laidMetH_of_parts (laidMet_nil _ _) (by kernel_rfl)
theorem reads (os : Os) {H : Type} (enc : TypeId × Value → H) : ∃ places, DataW.whole enc Tryd.prog ((laidWorld os).forCall (fun _ _ => 0) ⟨#[], #[.slice none 0 0], []⟩).memory Tryd.f5.params.toList Rows.wireDecodesSpec.vars false (#[.slice none 0 0] : Array Value).toList 8 = some ([.nil], [], places) :=
  ⟨[], by kernel_rfl⟩
set_option maxRecDepth 100000 in
set_option maxHeartbeats 1000000 in
theorem contract (H : Type) (enc : TypeId × Value → H) (W : World) (base : Nat) (args : Array Value) (ds gs : List (DataW H)) (before : List MemPlace)
    (hval0 : ∀ (j : Nat) t v, Tryd.f5.params[j]? = some t → args[j]? = some v → Value.okWide Tryd.prog W .any base t v)
    (hW : DataW.Whole enc Tryd.prog Tryd.f5.params.toList Rows.wireDecodesSpec.vars false W args.toList ds gs before) (hh : Handle W) :
    Calls Tryd.prog 5 args W fun e W' => ∃ v, e = .returned v ∧ Rows.wireDecodesSpec.post enc Tryd.prog Tryd.f5 false true false false W args v W' := by
  have hval := hval0
  have hW' := hW
  obtain ⟨p, q, hA0, hV, rfl, hfz, hnd⟩ := hW
  have hA : DataW.TrodAll enc Tryd.prog W 0 (fun _ => true) true Tryd.f5.params.toList args.toList ds p := hA0
  rw [Tryd.params5] at hA hval
  obtain ⟨v0, vs0, d0, ds0, p0, q0, hargs, rfl, rfl, h0, r0⟩ := trodAll_cons hA
  obtain ⟨rfl, rfl, rfl⟩ := trodAll_nil r0
  obtain rfl : args = #[v0] := by cases args; simp_all
  obtain ⟨rfl, rfl⟩ := trodVars_none hV
  have k0 := h0
  have lt0 : ∀ x ∈ p0, x.block < W.heap.size := by obtain ⟨m, hm⟩ := k0; exact DataW.trod_lt m _ _ _ hm
  obtain ⟨a0, w0⟩ := open_luint8 (hval 0 27 v0 rfl rfl) h0
  clear hA0 hval0
  refine (walk a0 v0 W w0 hh).mono fun e W' ⟨he, bel⟩ => ?_
  subst he
  exact ⟨_, rfl, _, _, _, [], _, [], hW', trodAll_mk1 (shut_bool Tryd.underlying4 _), (trodAll_cons_mk (Below.trod laidOut (by kernel_rfl) (of_decide_eq_true (by kernel_rfl)) k0 bel lt0) trodAll_mk0), rfl, bel.frame _, fun h => by cases h⟩

set_option maxRecDepth 100000 in
theorem lifted (os : Os) (started : os.Started) (H : Type) (enc : TypeId × Value → H) (F : Stop.Interp) :
    ReturnsInHanded {} Tryd.checked os 5 .any ((OpenSpec.ofChange Rows.wireDecodesSpec).preRow enc Tryd.prog Tryd.f5 Rows.wireDecodesRow.domain false Rows.wireDecodesRow.laid) (((OpenSpec.ofChange Rows.wireDecodesSpec).at F).post enc Tryd.prog Tryd.f5 false true false false) := by
  obtain ⟨places, hx⟩ := reads os enc
  refine returnsInHanded_of_row (C := Tryd.checked) (s := OpenSpec.ofChange Rows.wireDecodesSpec) own started (by kernel_rfl) Tryd.func5
    (witness_row_at (enc := enc) (C := Tryd.checked) false (laidWorld os) #[.slice none 0 0] rfl (by kernel_rfl) (by kernel_rfl) (by kernel_rfl)
      (OpenSpec.preRow_of_cond 8 hx (by kernel_rfl) (fun k hk => by cases hk) (by kernel_rfl) (laid_met os))) ?_
  intro W base args ds gs before hval hW _ _ _ hL _ _
  exact contract H enc W base args ds gs before hval hW (handle_of_laid hL)

theorem said : Rows.WireDecodesSaid :=
  OpenClaim.holds_of_cond 5 Tryd.f5 rfl rfl rfl rfl rfl rfl rfl ⟨rfl, rfl, rfl, rfl, rfl⟩ rfl rfl rfl rfl rfl (by kernel_rfl) Tryd.func5 (by kernel_rfl)
    (of_decide_eq_true (by kernel_rfl)) (by unfold Func.isWrapper; first | (rw [if_pos (by decide +kernel)]; kernel_rfl) | (rw [if_neg (by decide +kernel)]; exact ⟨rfl, rfl⟩))
    (fun os started H enc _ F => by rw [OpenClaim.pre_eq_preRow]; exact lifted os started H enc F)
theorem plain (f : FuncId) (fn : Func) (hf : Tryd.pinned.checked.prog.funcNamed Rows.wireDecodesRow.func = some f) (hfn : Tryd.pinned.checked.prog.funcs[f]? = some fn) :
    Rows.wireDecodesCard.stood.looks = Tryd.pinned.checked.prog.looks [] ∧ ∀ (j : Nat) t, fn.params[j]? = some t → Tryd.pinned.checked.prog.wantsStandIn t = false := by
  obtain rfl : f = 5 := Option.some.inj ((show Tryd.prog.funcNamed Rows.wireDecodesRow.func = some 5 by kernel_rfl).symm.trans hf) |>.symm
  obtain rfl : fn = Tryd.f5 := (Option.some.inj (Tryd.func5.symm.trans hfn)).symm
  refine ⟨by kernel_rfl, fun j t ht => ?_⟩
  rw [Tryd.params5] at ht
  have hm := Array.mem_of_getElem? ht
  have hc : t = 27 := by simpa using hm
  rcases hc with rfl
  · exact (show Tryd.prog.wantsStandIn 27 = false by kernel_rfl)
theorem proved : Rows.WireDecodesCardSaid :=
  Claim7.holds_tied_plain_at .later [] _ _ _ _ said (fun _ h => by cases h) (by kernel_rfl) (fun _ h => by cases h) wireDecodes_row_tie rfl ⟨rfl, rfl⟩ (by kernel_rfl) rfl plain (by kernel_rfl)
#print axioms proved

end Go.Proofs.YtgknjikjjklaiaaDoor.lawWireDecodes
