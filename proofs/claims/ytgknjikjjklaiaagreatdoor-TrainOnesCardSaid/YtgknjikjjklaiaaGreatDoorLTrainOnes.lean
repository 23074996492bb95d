/- TrainOnes: one step of any state by any batch is the document's: the law returns true. No condition. -/
import Derived.Test.YtgknjikjjklaiaaGreatDoorCards
import Derived.Test.YtgknjikjjklaiaaGreatDoorTie
import Derived.Test.YtgknjikjjklaiaaGreatDoorJ52
import Derived.Test.YtgknjikjjklaiaaGreatDoorJ23
import Derived.Test.YtgknjikjjklaiaaGreatDoorJ29
import Derived.Test.YtgknjikjjklaiaaGreatDoorJ17
import Derived.Deep.DeepHandedRow
set_option linter.unusedVariables false
set_option linter.unusedSimpArgs false
set_option linter.unusedSectionVars false
set_option maxRecDepth 100000
namespace Go.Proofs.YtgknjikjjklaiaaGreatDoor.lawTrainOnes
open Go.ChangeShapes Go.WideShapes Go.ChangeAt Go.RowKit Gal
set_option maxHeartbeats 8000000
/-- what comes of a step, or nothing -/
def stepSta (s : Sta) (d : Bat) (p ln kp : Int) : Sta := if oneFault s d p ln kp = 0 then oneOf s d p ln kp else ⟨[], [], 0⟩
def stepOff (s : Sta) (d : Bat) (p ln kp : Int) : Int := if oneFault s d p ln kp = 0 then oneOff s d p else 0
theorem ends {base : Nat} {w' : World} {s : Sta} {d : Bat} {p ln kp off : Int} {v : Value} (h : oneFault s d p ln kp = 0 → off = oneOff s d p ∧ StaNew base w' v (oneOf s d p ln kp)) (h' : oneFault s d p ln kp ≠ 0 → off = 0 ∧ v = .agg #[.slice none 0 0, .slice none 0 0, .int .i64 0]) :
  off = stepOff s d p ln kp ∧ StaV w' v (stepSta s d p ln kp) := by
 unfold stepSta stepOff
 by_cases hf : oneFault s d p ln kp = 0
 ·rw [if_pos hf, if_pos hf]
  obtain ⟨h1, a, n, k, b, a1, n1, k1, b1, rfl, q0, q1⟩ := h hf
  exact ⟨h1, a, n, k, b, 0, a1, n1, k1, b1, 0, rfl, q0.wide (fun _ _ _ => trivial), q1.wide (fun _ _ _ => trivial)⟩
 ·rw [if_neg hf, if_neg hf]
  obtain ⟨h1, rfl⟩ := h' hf
  exact ⟨h1, none, 0, 0, 0, 0, none, 0, 0, 0, 0, rfl, RowAt.nil _ _ _, RowAt.nil _ _ _⟩
theorem walk (s : Sta) (v0 : Value) (d : Bat) (v1 : Value) (p : Int) (r : Rts) (v3 : Value) (w : World) (hs : StaV w v0 s) (hd : BatAt w v1 d) (hp : (Lit.int .i64 p).wf = true) (hr : RatesAt w v3 r) (hh : Handle w) :
  Calls Tryz.prog 4 #[v0, v1, .int .i64 p, v3] w fun e w' => e = .returned (.bool true) ∧ Below w.heap.size w w' := by
 obtain ⟨a0, n, k0, b0, o0, a1, n1, k1, b1, o1, rfl, h0, h1⟩ := hs
 obtain ⟨a2, n2, k2, b2, o2, a3, n3, k3, b3, o3, rfl, x0, x1⟩ := hd
 obtain ⟨ln, kp⟩ := r
 unfold RatesAt at hr
 subst hr
 clear hp
 go_enter Tryz.func4, Tryz.ntmps4
 go_wp2_with fail
 refine (refStateFault_any s anyB anyB _ _ _ _ _ _ _ _ _ _ _ (h0.alloc _ |>.alloc _ |>.alloc _) (h1.alloc _ |>.alloc _ |>.alloc _)).mono ?_
 rintro e w1 ⟨rfl, hb1⟩
 have B1 := ((show Box _ w.heap.size [.slice a0 n k0, .slice a1 n1 k1, .int .i64 s.steps] 47 from Box.x0)).keep hb1
 have B1c := B1.cell
 have B1f := B1.thawed
 have B1z := B1.lt
 have B1k := lt_add B1z
 have B2 := ((show Box _ (w.heap.size + 1) [.int .i64 d.I.rows, .int .i64 d.I.cols, .slice a2 n2 k2, .int .i64 d.W.rows, .int .i64 d.W.cols, .slice a3 n3 k3] 49 from Box.x0)).keep hb1
 have B2c := B2.cell
 have B2f := B2.thawed
 have B2z := B2.lt
 have B2k := lt_add B2z
 have B3 := ((show Box _ (w.heap.size + 1 + 1) [.int .i64 ln, .int .i64 kp] 51 from Box.x0)).keep hb1
 have B3c := B3.cell
 have B3f := B3.thawed
 have B3z := B3.lt
 have B3k := lt_add B3z
 have hkw1 : Below w.heap.size w w1 := (Below.x1 hb1)
 replace h0 := h0.keep hkw1
 replace h1 := h1.keep hkw1
 replace x0 := x0.keep hkw1
 replace x1 := x1.keep hkw1
 replace hh := hh.keep hkw1
 have hsw1 := hkw1.size
 go_wp2_with fail
 refine (lawState1_any s.steps a0 a1 n n1 k0 k1 _).mono ?_
 rintro e w2 ⟨rfl, hb2⟩
 have hkw2 : Below w1.heap.size w1 w2 := (Below.x1 hb2)
 replace B1 := B1.keep hkw2
 replace B1c := B1.cell
 replace B1f := B1.thawed
 replace B1z := B1.lt
 replace B1k := lt_add B1z
 replace B2 := B2.keep hkw2
 replace B2c := B2.cell
 replace B2f := B2.thawed
 replace B2z := B2.lt
 replace B2k := lt_add B2z
 replace B3 := B3.keep hkw2
 replace B3c := B3.cell
 replace B3f := B3.thawed
 replace B3z := B3.lt
 replace B3k := lt_add B3z
 replace h0 := h0.keep hkw2
 replace h1 := h1.keep hkw2
 replace x0 := x0.keep hkw2
 replace x1 := x1.keep hkw2
 replace hh := hh.keep hkw2
 have hsw2 := hkw2.size
 go_wp2_with fail
 refine (trainCheck_any s anyB anyB _ _ _ _ _ _ _ _ _ _ _ (h0.alloc _) (h1.alloc _)).mono ?_
 rintro e w3 ⟨rfl, hb3⟩
 have B4 := (Box.new w2 [.slice a0 n k0, .slice a1 n1 k1, .int .i64 s.steps] 53).keep hb3
 have B4c := B4.cell
 have B4f := B4.thawed
 have B4z := B4.lt
 have B4k := lt_add B4z
 have hkw3 : Below w2.heap.size w2 w3 := (Below.x1 hb3)
 replace B1 := B1.keep hkw3
 replace B1c := B1.cell
 replace B1f := B1.thawed
 replace B1z := B1.lt
 replace B1k := lt_add B1z
 replace B2 := B2.keep hkw3
 replace B2c := B2.cell
 replace B2f := B2.thawed
 replace B2z := B2.lt
 replace B2k := lt_add B2z
 replace B3 := B3.keep hkw3
 replace B3c := B3.cell
 replace B3f := B3.thawed
 replace B3z := B3.lt
 replace B3k := lt_add B3z
 replace h0 := h0.keep hkw3
 replace h1 := h1.keep hkw3
 replace x0 := x0.keep hkw3
 replace x1 := x1.keep hkw3
 replace hh := hh.keep hkw3
 have hsw3 := hkw3.size
 go_wp2_with fail
 refine (error_any s.fault s.fault _ hh).mono ?_
 rintro e w4 ⟨rfl, hb4⟩
 rw [decide_eq_true rfl]
 have hkw4 : Below w3.heap.size w3 w4 := (Below.x1 hb4)
 replace B1 := B1.keep hkw4
 replace B1c := B1.cell
 replace B1f := B1.thawed
 replace B1z := B1.lt
 replace B1k := lt_add B1z
 replace B2 := B2.keep hkw4
 replace B2c := B2.cell
 replace B2f := B2.thawed
 replace B2z := B2.lt
 replace B2k := lt_add B2z
 replace B3 := B3.keep hkw4
 replace B3c := B3.cell
 replace B3f := B3.thawed
 replace B3z := B3.lt
 replace B3k := lt_add B3z
 replace B4 := B4.keep hkw4
 replace B4c := B4.cell
 replace B4f := B4.thawed
 replace B4z := B4.lt
 replace B4k := lt_add B4z
 replace h0 := h0.keep hkw4
 replace h1 := h1.keep hkw4
 replace x0 := x0.keep hkw4
 replace x1 := x1.keep hkw4
 replace hh := hh.keep hkw4
 have hsw4 := hkw4.size
 go_wp2_with fail
 refine (trainOne_any s d p ln kp anyB anyB _ _ _ _ _ _ _ _ _ _ _ _ h0 h1 ⟨a2, n2, k2, b2, o2, a3, n3, k3, b3, o3, rfl, x0, x1⟩).mono ?_
 rintro e w5 ⟨vO, off, rfl, hb5, hO, hO'⟩
 have hkw5 : Below w4.heap.size w4 w5 := (Below.x1 hb5)
 replace B1 := B1.keep hkw5
 replace B1c := B1.cell
 replace B1f := B1.thawed
 replace B1z := B1.lt
 replace B1k := lt_add B1z
 replace B2 := B2.keep hkw5
 replace B2c := B2.cell
 replace B2f := B2.thawed
 replace B2z := B2.lt
 replace B2k := lt_add B2z
 replace B3 := B3.keep hkw5
 replace B3c := B3.cell
 replace B3f := B3.thawed
 replace B3z := B3.lt
 replace B3k := lt_add B3z
 replace h0 := h0.keep hkw5
 replace h1 := h1.keep hkw5
 replace x0 := x0.keep hkw5
 replace x1 := x1.keep hkw5
 replace hh := hh.keep hkw5
 have hsw5 := hkw5.size
 obtain ⟨rfl, c0, m0, l0, d0, p0, c1, m1, l1, d1, p1, rfl, q0, q1⟩ := ends hO hO'
 clear hO hO' B4 B4c B4f B4z B4k
 obtain ⟨S, hS⟩ : ∃ S, stepSta s d p ln kp = S := ⟨_, rfl⟩
 obtain ⟨O, hO⟩ : ∃ O, stepOff s d p ln kp = O := ⟨_, rfl⟩
 obtain ⟨f, hf⟩ : ∃ f, oneFault s d p ln kp = f := ⟨_, rfl⟩
 have HS := Lib.hid hS
 have HO := Lib.hid hO
 have HF := Lib.hid hf
 rw [hS] at q0 q1
 rw [hS, hO, hf]
 clear hS hO hf
 go_wp2_with fail
 refine (refOneOf_any s d p ln kp anyB anyB _ _ _ _ _ _ _ _ _ _ _ _ (h0.alloc _) (h1.alloc _) ⟨a2, n2, k2, b2, o2, a3, n3, k3, b3, o3, rfl, x0.alloc _, x1.alloc _⟩).mono ?_
 rintro e w6 ⟨vR, ofr, rfl, hb6, hR, hR'⟩
 have B5 := (Box.new w5 [.slice c0 m0 l0, .slice c1 m1 l1, .int .i64 S.steps] 53).keep hb6
 have B5c := B5.cell
 have B5f := B5.thawed
 have B5z := B5.lt
 have B5k := lt_add B5z
 have hkw6 : Below w5.heap.size w5 w6 := (Below.x1 hb6)
 replace q0 := q0.keep hkw6
 replace q1 := q1.keep hkw6
 replace hh := hh.keep hkw6
 have hsw6 := hkw6.size
 obtain ⟨rfl, c2, m2, l2, d2, p2, c3, m3, l3, d3, p3, rfl, r0, r1⟩ := ends hR hR'
 rw [HS.out] at r0 r1
 rw [HS.out, HO.out, HF.out]
 have hbw6 : Below w.heap.size w w6 := (by repeat (first | (with_reducible first | exact Below.refl _ _ | refine Below.al ?_ _ | refine Below.drN ?_ _ | refine Below.drew ?_ | refine Below.sx ?_ _ | refine Below.go ?_ hb6 | refine Below.go ?_ hb5 | refine Below.go ?_ hb4 | refine Below.go ?_ hb3 | refine Below.go ?_ hb2 | refine Below.go ?_ hb1) | exact Below.refl _ _))
 clear hR hR' h0 h1 x0 x1 B1 B1c B1f B1z B1k B2 B2c B2f B2z B2k B3 B3c B3f B3z B3k hb1 hb2 hb3 hb4 hb5 hb6
 go_wp2_with fail
 refine (error_any f f _ (hh.alloc _)).mono ?_
 rintro e w7 ⟨rfl, hb7⟩
 rw [decide_eq_true rfl]
 have B6 := (Box.new w6 [.slice c2 m2 l2, .slice c3 m3 l3, .int .i64 S.steps] 47).keep hb7
 have B6c := B6.cell
 have B6f := B6.thawed
 have B6z := B6.lt
 have B6k := lt_add B6z
 have hkw7 : Below w6.heap.size w6 w7 := (Below.x1 hb7)
 replace B5 := B5.keep hkw7
 replace B5c := B5.cell
 replace B5f := B5.thawed
 replace B5z := B5.lt
 replace B5k := lt_add B5z
 replace q0 := q0.keep hkw7
 replace q1 := q1.keep hkw7
 replace r0 := r0.keep hkw7
 replace r1 := r1.keep hkw7
 have hsw7 := hkw7.size
 go_wp2_with fail
 refine (states1_same S _ _ _ ⟨c0, m0, l0, d0, p0, c1, m1, l1, d1, p1, rfl, q0, q1⟩ ⟨c2, m2, l2, d2, p2, c3, m3, l3, d3, p3, rfl, r0, r1⟩).mono ?_
 rintro e w8 ⟨rfl, hb8⟩
 have hbe : Below w.heap.size w w8 := (by repeat (first | (with_reducible first | exact Below.refl _ _ | exact hbw6 | refine Below.al ?_ _ | refine Below.drN ?_ _ | refine Below.drew ?_ | refine Below.sx ?_ _ | refine Below.go ?_ hb8 | refine Below.go ?_ hb7) | exact Below.refl _ _ | exact hbw6))
 have hOO : (O == O) = true := by simp
 clear q0 q1 r0 r1 B5 B6
 go_wp2
 go_ret
 exact ⟨rfl, hbe⟩
theorem own : ownKnob Tryz.prog.godebug = none := by kernel_rfl
theorem laidOut : laidOutB Tryz.prog = true := by kernel_rfl
theorem et : Tryz.prog.globalNamed "errors.errorType" = some 0 := by kernel_rfl
theorem rt : (Tryz.prog.cutTypes.find? (·.1 == "internal/reflectlite.rtype")).map (·.2) = some 182 := by kernel_rfl
theorem oneRow : ((List.range 229).filter fun t => Tryz.prog.rowNamed t [101, 114, 114, 111, 114]) = [28] := by kernel_rfl
theorem tsize : Tryz.prog.types.size = 229 := by kernel_rfl
theorem handle_of_laid {W : World} (h : laidMetH Tryz.prog Rows.trainOnesRow.laid W) : Handle W := by
 have h' : laidMet Tryz.prog [] W ∧ handlesMet Tryz.prog Rows.trainOnesRow.laid W := h
 obtain ⟨name, u, ty, e1, e2, e3, e4, e5⟩ := h'.2 _ (List.mem_singleton.2 rfl)
 have en : name = [101, 114, 114, 111, 114] := (Option.some.inj e1).symm
 subst en
 obtain rfl := Option.some.inj (rt.symm.trans e2)
 have hm : ty ∈ (List.range 229).filter fun t => Tryz.prog.rowNamed t [101, 114, 114, 111, 114] := List.mem_filter.2 ⟨List.mem_range.2 (by rw [← tsize]; exact e3), e4⟩
 rw [oneRow] at hm
 obtain rfl := List.mem_singleton.1 hm
 have hh : typeHandle Tryz.prog 28 = .pointer (some ⟨1, 28, none⟩) := by kernel_rfl
 rw [hh] at e5
 simpa [Handle, handleV] using World.var?_cell et e5 0
noncomputable def laidWorld (os : Os) : World :=
 { World.holding Tryz.prog os ⟨#[], #[], []⟩ with heap := (World.holding Tryz.prog os ⟨#[], #[], []⟩).heap.modify 0 fun
   | .cells _ t frozen => .cells #[.iface 182 (.agg #[.pointer (some ⟨1, 28, none⟩)])] t frozen
   | o => o }
theorem laid_met (os : Os) : laidMetH Tryz.prog Rows.trainOnesRow.laid ((laidWorld os).forCall (fun _ _ => 0) ⟨#[], #[.agg #[.slice none 0 0, .slice none 0 0, .int .i64 0], .agg #[.int .i64 0, .int .i64 0, .slice none 0 0, .int .i64 0, .int .i64 0, .slice none 0 0], .int .i64 0, .agg #[.int .i64 0, .int .i64 0]], []⟩).memory :=
 laidMetH_of_parts (laidMet_nil _ _) (by kernel_rfl)
theorem reads (os : Os) {H : Type} (enc : TypeId × Value → H) : ∃ places, DataW.whole enc Tryz.prog ((laidWorld os).forCall (fun _ _ => 0) ⟨#[], #[.agg #[.slice none 0 0, .slice none 0 0, .int .i64 0], .agg #[.int .i64 0, .int .i64 0, .slice none 0 0, .int .i64 0, .int .i64 0, .slice none 0 0], .int .i64 0, .agg #[.int .i64 0, .int .i64 0]], []⟩).memory Tryz.f4.params.toList Rows.trainOnesSpec.vars false (#[.agg #[.slice none 0 0, .slice none 0 0, .int .i64 0], .agg #[.int .i64 0, .int .i64 0, .slice none 0 0, .int .i64 0, .int .i64 0, .slice none 0 0], .int .i64 0, .agg #[.int .i64 0, .int .i64 0]] : Array Value).toList 8 = some ([.agg [.nil, .nil, .lit (.int .i64 0)], .agg [.agg [.lit (.int .i64 0), .lit (.int .i64 0), .nil], .agg [.lit (.int .i64 0), .lit (.int .i64 0), .nil]], .lit (.int .i64 0), .agg [.lit (.int .i64 0), .lit (.int .i64 0)]], [], places) :=
 ⟨[], by kernel_rfl⟩
set_option maxRecDepth 100000 in
set_option maxHeartbeats 1000000 in
theorem contract (H : Type) (enc : TypeId × Value → H) (W : World) (base : Nat) (args : Array Value) (ds gs : List (DataW H)) (before : List MemPlace)
  (hval0 : ∀ (j : Nat) t v, Tryz.f4.params[j]? = some t → args[j]? = some v → Value.okWide Tryz.prog W .any base t v)
  (hW : DataW.Whole enc Tryz.prog Tryz.f4.params.toList Rows.trainOnesSpec.vars false W args.toList ds gs before) (hh : Handle W) :
  Calls Tryz.prog 4 args W fun e W' => ∃ v, e = .returned v ∧ Rows.trainOnesSpec.post enc Tryz.prog Tryz.f4 false true false false W args v W' := by
 have hval := hval0
 have hW' := hW
 obtain ⟨p, q, hA0, hV, rfl, hfz, hnd⟩ := hW
 have hA : DataW.TrodAll enc Tryz.prog W 0 (fun _ => true) true Tryz.f4.params.toList args.toList ds p := hA0
 rw [Tryz.params4] at hA hval
 obtain ⟨v0, vs0, d0, ds0, p0, q0, hargs, rfl, rfl, h0, r0⟩ := trodAll_cons hA
 obtain ⟨v1, vs1, d1, ds1, p1, q1, rfl, rfl, rfl, h1, r1⟩ := trodAll_cons r0
 obtain ⟨v2, vs2, d2, ds2, p2, q2, rfl, rfl, rfl, h2, r2⟩ := trodAll_cons r1
 obtain ⟨v3, vs3, d3, ds3, p3, q3, rfl, rfl, rfl, h3, r3⟩ := trodAll_cons r2
 obtain ⟨rfl, rfl, rfl⟩ := trodAll_nil r3
 obtain rfl : args = #[v0, v1, v2, v3] := by cases args; simp_all
 obtain ⟨rfl, rfl⟩ := trodVars_none hV
 have k0 := h0
 have lt0 : ∀ x ∈ p0, x.block < W.heap.size := by obtain ⟨m, hm⟩ := k0; exact DataW.trod_lt m _ _ _ hm
 have k1 := h1
 have lt1 : ∀ x ∈ p1, x.block < W.heap.size := by obtain ⟨m, hm⟩ := k1; exact DataW.trod_lt m _ _ _ hm
 have k2 := h2
 have lt2 : ∀ x ∈ p2, x.block < W.heap.size := by obtain ⟨m, hm⟩ := k2; exact DataW.trod_lt m _ _ _ hm
 have k3 := h3
 have lt3 : ∀ x ∈ p3, x.block < W.heap.size := by obtain ⟨m, hm⟩ := k3; exact DataW.trod_lt m _ _ _ hm
 obtain ⟨a0, w0⟩ := open_galley_galleyref1_State (hval 0 47 v0 rfl rfl) h0
 obtain ⟨a1, w1⟩ := open_Batch (hval 1 49 v1 rfl rfl) h1
 obtain ⟨a2, rfl, rfl, rfl, w2⟩ := open_int Tryz.underlying3 (hval 2 3 v2 rfl rfl) h2
 obtain ⟨a3, w3⟩ := open_Rates (hval 3 51 v3 rfl rfl) h3
 clear hA0 hval0
 refine (walk a0 v0 a1 v1 a2 a3 v3 W w0 w1 w2 w3 hh).mono fun e W' ⟨he, bel⟩ => ?_
 subst he
 exact ⟨_, rfl, _, _, _, [], _, [], hW', trodAll_mk1 (shut_bool Tryz.underlying4 _), (trodAll_cons_mk (Below.trod laidOut (by kernel_rfl) (of_decide_eq_true (by kernel_rfl)) k0 bel lt0) (trodAll_cons_mk (Below.trod laidOut (by kernel_rfl) (of_decide_eq_true (by kernel_rfl)) k1 bel lt1) (trodAll_cons_mk (Below.trod laidOut (by kernel_rfl) (of_decide_eq_true (by kernel_rfl)) k2 bel lt2) (trodAll_cons_mk (Below.trod laidOut (by kernel_rfl) (of_decide_eq_true (by kernel_rfl)) k3 bel lt3) trodAll_mk0)))), rfl, bel.frame _, fun h => by cases h⟩
set_option maxRecDepth 100000 in
theorem lifted (os : Os) (started : os.Started) (H : Type) (enc : TypeId × Value → H) (F : Stop.Interp) :
  ReturnsInHanded {} Tryz.checked os 4 .any ((OpenSpec.ofChange Rows.trainOnesSpec).preRow enc Tryz.prog Tryz.f4 Rows.trainOnesRow.domain false Rows.trainOnesRow.laid) (((OpenSpec.ofChange Rows.trainOnesSpec).at F).post enc Tryz.prog Tryz.f4 false true false false) := by
 obtain ⟨places, hx⟩ := reads os enc
 refine returnsInHanded_of_row (C := Tryz.checked) (s := OpenSpec.ofChange Rows.trainOnesSpec) own started (by kernel_rfl) Tryz.func4
  (witness_row_at (enc := enc) (C := Tryz.checked) false (laidWorld os) #[.agg #[.slice none 0 0, .slice none 0 0, .int .i64 0], .agg #[.int .i64 0, .int .i64 0, .slice none 0 0, .int .i64 0, .int .i64 0, .slice none 0 0], .int .i64 0, .agg #[.int .i64 0, .int .i64 0]] rfl (by kernel_rfl) (by kernel_rfl) (by kernel_rfl)
   (OpenSpec.preRow_of_cond 8 hx (by kernel_rfl) (fun k hk => by cases hk) (by kernel_rfl) (laid_met os))) ?_
 intro W base args ds gs before hval hW _ _ _ hL _ _
 exact contract H enc W base args ds gs before hval hW (handle_of_laid hL)
theorem said : Rows.TrainOnesSaid :=
 OpenClaim.holds_of_cond 4 Tryz.f4 rfl rfl rfl rfl rfl rfl rfl ⟨rfl, rfl, rfl, rfl, rfl⟩ rfl rfl rfl rfl rfl (by kernel_rfl) Tryz.func4 (by kernel_rfl)
  (of_decide_eq_true (by kernel_rfl)) (by unfold Func.isWrapper; first | (rw [if_pos (by decide +kernel)]; kernel_rfl) | (rw [if_neg (by decide +kernel)]; exact ⟨rfl, rfl⟩))
  (fun os started H enc _ F => by rw [OpenClaim.pre_eq_preRow]; exact lifted os started H enc F)
theorem plain (f : FuncId) (fn : Func) (hf : Tryz.pinned.checked.prog.funcNamed Rows.trainOnesRow.func = some f) (hfn : Tryz.pinned.checked.prog.funcs[f]? = some fn) :
  Rows.trainOnesCard.stood.looks = Tryz.pinned.checked.prog.looks [] ∧ ∀ (j : Nat) t, fn.params[j]? = some t → Tryz.pinned.checked.prog.wantsStandIn t = false := by
 obtain rfl : f = 4 := Option.some.inj ((show Tryz.prog.funcNamed Rows.trainOnesRow.func = some 4 by kernel_rfl).symm.trans hf) |>.symm
 obtain rfl : fn = Tryz.f4 := (Option.some.inj (Tryz.func4.symm.trans hfn)).symm
 refine ⟨by kernel_rfl, fun j t ht => ?_⟩
 rw [Tryz.params4] at ht
 have hm := Array.mem_of_getElem? ht
 have hc : t = 47 ∨ t = 49 ∨ t = 3 ∨ t = 51 := by simpa using hm
 rcases hc with rfl | rfl | rfl | rfl
 ·exact (show Tryz.prog.wantsStandIn 47 = false by kernel_rfl)
 ·exact (show Tryz.prog.wantsStandIn 49 = false by kernel_rfl)
 ·exact (show Tryz.prog.wantsStandIn 3 = false by kernel_rfl)
 ·exact (show Tryz.prog.wantsStandIn 51 = false by kernel_rfl)
theorem proved : Rows.TrainOnesCardSaid :=
 Claim7.holds_tied_plain_at .later [] _ _ _ _ said (fun _ h => by cases h) (by kernel_rfl) (fun _ h => by cases h) trainOnes_row_tie rfl ⟨rfl, rfl⟩ (by kernel_rfl) rfl plain (by kernel_rfl)
#print axioms proved
end Go.Proofs.YtgknjikjjklaiaaGreatDoor.lawTrainOnes
