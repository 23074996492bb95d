/- TopAgain: who keeps little learns the same: a step by what goes back of a net of which every few layers something is kept is the step that train makes: the law returns true, and the input reads as it did. No condition. -/
import Derived.Test.YtchngeagnlngaaaRows
import Derived.Test.YtchngeagnlngaaaJ01
import Derived.Test.YtchngeagnlngaaaJ19
import Derived.Test.YtchngeagnlngaaaJ42
import Derived.Test.YtchngeagnlngaaaJ45
import Derived.Test.YtchngeagnlngaaaJ28
import Derived.Test.YtchngeagnlngaaaJ04
import Derived.Test.YtchngeagnlngaaaJ22
import Derived.Test.YtchngeagnlngaaaJ46
import Derived.Deep.DeepHandedRow
import Derived.Deep.RegionHeld3
set_option linter.unusedVariables false
set_option linter.unusedSimpArgs false
set_option linter.unusedSectionVars false
set_option maxRecDepth 100000
namespace Go.Proofs.Ytchngeagnlngaaa.lawTopAgain
open Go.ChangeShapes Go.WideShapes Go.ChangeAt Go.RowKit Gal
set_option maxHeartbeats 8000000
theorem pick_q (c : Int) : ∃ q : Nat, (1 : Int) + pickOf c 12 = (q : Int) ∧ 1 ≤ q ∧ q ≤ 12 := by
 have h1 : 0 ≤ pickOf c 12 := Int.emod_nonneg _ (by omega)
 have h2 : pickOf c 12 < 12 := Int.emod_lt_of_pos _ (by omega)
 exact ⟨(1 + pickOf c 12).toNat, by omega, by omega, by omega⟩
theorem ag_zero {N : List Lay} {d : Bat} (h : PartOk N d) : agFault N d.I d.W = 0 := by
 unfold agFault
 rw [if_neg (fun q => q h.go), if_neg (fun q => q h.loss)]
 have hb := h.back
 unfold netBackFault at hb
 by_cases h1 : 12 < N.length
 ·rw [if_pos h1] at hb; exact absurd hb (by decide)
 rw [if_neg h1] at hb
 by_cases h2 : (sawOne N d.I).length ≠ N.length + 1
 ·rw [if_pos h2] at hb; exact absurd hb (by decide)
 rw [if_neg h2] at hb
 by_cases h3 : N.length = 0
 ·rw [h3]; rfl
 ·rw [if_neg h3] at hb; exact hb
theorem cells37 {w : World} {b c : Nat} {t u : TypeId} {u0 u1 u2 v0 v1 v2 v3 v4 v5 : Value} (h : Box w b [u0, u1, u2] t) (k : Box w c [v0, v1, v2, v3, v4, v5] u) :
  w.cell? ⟨b, 0, none⟩ = some u0 ∧ w.cell? ⟨c, 0, none⟩ = some v0 ∧ w.cell? ⟨c, 1, none⟩ = some v1 ∧ w.cell? ⟨c, 2, none⟩ = some v2 ∧ w.cell? ⟨c, 3, none⟩ = some v3 ∧ w.cell? ⟨c, 4, none⟩ = some v4 ∧ w.cell? ⟨c, 5, none⟩ = some v5 :=
 ⟨h.cell 0, k.cell 0, k.cell 1, k.cell 2, k.cell 3, k.cell 4, k.cell 5⟩
theorem walk (s : Sta) (v0 : Value) (d : Bat) (v1 : Value) (A : Int) (r : Rts) (v3 : Value) (w : World) (hs : StaV w v0 s) (hd : BatAt w v1 d) (hA : (Lit.int .i64 A).wf = true) (hr : RatesAt w v3 r) :
  Calls Try.prog 3 #[v0, v1, .int .i64 A, v3] w fun e w' => e = .returned (.bool true) ∧ Below w.heap.size w w' := by
 obtain ⟨a0, n, k0, b0, o0, a1, n1, k1, b1, o1, rfl, h0, h1⟩ := hs
 obtain ⟨a2, n2, k2, b2, o2, a3, n3, k3, b3, o3, rfl, x0, x1⟩ := hd
 obtain ⟨ln, kp⟩ := r
 unfold RatesAt at hr
 subst hr
 dsimp only
 have hA' := bounds_i64 hA
 clear hA
 obtain ⟨q, hq, hq1, hq2⟩ := pick_q A
 obtain ⟨PA, hPA⟩ : ∃ PA, pickOf A 12 = PA := ⟨_, rfl⟩
 rw [hPA] at hq
 have HPA := Lib.hid hPA
 have HWQ : Hid (IntKind.i64.wrap (q : Int) = (q : Int)) := Lib.hid (IntWalk.i64_in _ (by omega))
 clear hPA
 by_cases hf : oneFault s d 1 ln kp = 0
 ·have hone := oneFault_ok hf
  obtain ⟨t1, t2, hp⟩ := one_alone hf
  have hstep := one_step hf
  rw [t1] at hstep
  obtain ⟨_, st0, st1, _, _⟩ := Sta.fault_ok hone.1
  have hn := h0.len
  obtain ⟨D, hD⟩ : ∃ D, partTurn s.N d = D := ⟨_, rfl⟩
  obtain ⟨O, hO⟩ : ∃ O, partOff s.N d = O := ⟨_, rfl⟩
  obtain ⟨ms, hms⟩ : ∃ ms, stepLays s.N s.V D ln kp s.N.length = ms := ⟨_, rfl⟩
  obtain ⟨gs, hgs⟩ : ∃ gs, stepGrds s.N s.V D kp s.N.length = gs := ⟨_, rfl⟩
  rw [hD] at hstep
  have HONE : Hid (oneOf s d 1 ln kp = ⟨ms, gs, s.steps + 1⟩) := Lib.hid (by unfold oneOf; rw [t1, hD, hms, hgs])
  have HOFF : Hid (oneOff s d 1 = O) := Lib.hid (t2.trans hO)
  have HDD : Hid (bDs s.N (netOuts s.N d.I n) (lossBack (netTo s.N d.I n) d.W) n = D) := Lib.hid (by rw [← hn, ← hD]; rfl)
  have HOO : Hid (lossOf (netTo s.N d.I n) d.W = O) := Lib.hid (by rw [← hn, ← hO]; rfl)
  have HAG := Lib.hid (ag_zero hp)
  have HF := Lib.hid hf
  have HE0 : Hid (errV 0 = .nilIface) := Lib.hid (errV_nil rfl)
  have HST := Lib.hid hstep
  have HMS := Lib.hid hms
  have HGS := Lib.hid hgs
  have HN := Lib.hid hn
  clear hf hone t1 t2 hp hstep hD hO hms hgs hn
  go_enter Try.func3, Try.ntmps3
  go_wp2_with fail
  refine (topOne_any _).mono ?_
  rintro e w1 ⟨rfl, hb1⟩
  have B1 := ((show Box _ w.heap.size [.slice a0 n k0, .slice a1 n1 k1, .int .i64 s.steps] 25 from Box.x0)).keep hb1
  have B1c := B1.cell
  have B1f := B1.thawed
  have B1z := B1.lt
  have B1k := lt_add B1z
  have B2 := ((show Box _ (w.heap.size + 1) [.int .i64 d.I.rows, .int .i64 d.I.cols, .slice a2 n2 k2, .int .i64 d.W.rows, .int .i64 d.W.cols, .slice a3 n3 k3] 30 from Box.x0)).keep hb1
  have B2c := B2.cell
  have B2f := B2.thawed
  have B2z := B2.lt
  have B2k := lt_add B2z
  have B3 := ((show Box _ (w.heap.size + 1 + 1) [.int .i64 ln, .int .i64 kp] 32 from Box.x0)).keep hb1
  have B3c := B3.cell
  have B3f := B3.thawed
  have B3z := B3.lt
  have B3k := lt_add B3z
  have hkw1 : Below w.heap.size w w1 := (Below.x1 hb1)
  replace h0 := h0.keep hkw1
  replace h1 := h1.keep hkw1
  replace x0 := x0.keep hkw1
  replace x1 := x1.keep hkw1
  have hsw1 := hkw1.size
  go_wp2_with fail
  refine (topState_any s.steps a0 a1 n n1 k0 k1 _).mono ?_
  rintro e w2 ⟨rfl, hb2⟩
  have hkw2 : Below w1.heap.size w1 w2 := (Below.x1 hb2)
  replace B1 := B1.keep hkw2
  replace B1c := B1.cell
  replace B1f := B1.thawed
  replace B1z := B1.lt
  replace B1k := lt_add B1z
  replace B2 := B2.keep hkw2
  replace B2c := B2.cell
  replace B2f := B2.thawed
  replace B2z := B2.lt
  replace B2k := lt_add B2z
  replace B3 := B3.keep hkw2
  replace B3c := B3.cell
  replace B3f := B3.thawed
  replace B3z := B3.lt
  replace B3k := lt_add B3z
  replace h0 := h0.keep hkw2
  replace h1 := h1.keep hkw2
  replace x0 := x0.keep hkw2
  replace x1 := x1.keep hkw2
  have hsw2 := hkw2.size
  go_wp2_with fail
  refine (trainOne_any s d 1 ln kp anyB anyB _ _ _ _ _ _ _ _ _ _ _ _ (h0.alloc _) (h1.alloc _) ⟨a2, n2, k2, b2, o2, a3, n3, k3, b3, o3, rfl, x0.alloc _, x1.alloc _⟩).mono ?_
  unfold OneEnd; rw [HF.out]
  rintro e w3 ⟨vO, off, rfl, hb3, hO, _⟩
  have hkw3 : Below w2.heap.size w2 w3 := (Below.x1 hb3)
  replace B1 := B1.keep hkw3
  replace B1c := B1.cell
  replace B1f := B1.thawed
  replace B1z := B1.lt
  replace B1k := lt_add B1z
  replace B2 := B2.keep hkw3
  replace B2c := B2.cell
  replace B2f := B2.thawed
  replace B2z := B2.lt
  replace B2k := lt_add B2z
  replace B3 := B3.keep hkw3
  replace B3c := B3.cell
  replace B3f := B3.thawed
  replace B3z := B3.lt
  replace B3k := lt_add B3z
  replace h0 := h0.keep hkw3
  replace h1 := h1.keep hkw3
  replace x0 := x0.keep hkw3
  replace x1 := x1.keep hkw3
  have hsw3 := hkw3.size
  obtain ⟨rfl, hSN⟩ := hO rfl
  rw [HONE.out] at hSN
  obtain ⟨c0, m0, l0, d0, c1, m1, l1, d1, rfl, q0, q1⟩ := hSN
  rw [HOFF.out, HE0.out]
  dsimp only at q0 q1 ⊢
  clear hO
  have hbw3 : Below w.heap.size w w3 := (by repeat (first | (with_reducible first | exact Below.refl _ _ | refine Below.al ?_ _ | refine Below.drN ?_ _ | refine Below.drew ?_ | refine Below.sx ?_ _ | refine Below.go ?_ hb3 | refine Below.go ?_ hb2 | refine Below.go ?_ hb1) | exact Below.refl _ _))
  clear hb1 hb2 hb3
  go_wp2_with fail
  obtain ⟨w4, hw4, B5, hb4⟩ : ∃ w4, w3.alloc (.cells #[.slice c0 m0 l0, .slice c1 m1 l1, .int .i64 (s.steps + 1)] 34) = w4 ∧ Box w4 w3.heap.size [.slice c0 m0 l0, .slice c1 m1 l1, .int .i64 (s.steps + 1)] 34 ∧ Below w3.heap.size w3 w4 := ⟨_, rfl, Box.new _ _ _, Below.x0⟩
  rw [hw4]
  have hkw4 : Below w3.heap.size w3 w4 := (Below.x1 hb4)
  replace B1 := B1.keep hkw4
  replace B1c := B1.cell
  replace B1f := B1.thawed
  replace B1z := B1.lt
  replace B1k := lt_add B1z
  replace B2 := B2.keep hkw4
  replace B2c := B2.cell
  replace B2f := B2.thawed
  replace B2z := B2.lt
  replace B2k := lt_add B2z
  replace B3 := B3.keep hkw4
  replace B3c := B3.cell
  replace B3f := B3.thawed
  replace B3z := B3.lt
  replace B3k := lt_add B3z
  replace h0 := h0.keep hkw4
  replace h1 := h1.keep hkw4
  replace x0 := x0.keep hkw4
  replace x1 := x1.keep hkw4
  replace q0 := q0.keep hkw4
  replace q1 := q1.keep hkw4
  have B5 := B5
  have B5c := B5.cell
  have B5f := B5.thawed
  have B5z := B5.lt
  have B5k := lt_add B5z
  go_region_held3 (fun w' => w'.cell? ⟨w.heap.size, 0, none⟩ = some (.slice a0 n k0) ∧ w'.cell? ⟨w.heap.size + 1, 0, none⟩ = some (.int .i64 d.I.rows) ∧ w'.cell? ⟨w.heap.size + 1, 1, none⟩ = some (.int .i64 d.I.cols) ∧ w'.cell? ⟨w.heap.size + 1, 2, none⟩ = some (.slice a2 n2 k2) ∧ w'.cell? ⟨w.heap.size + 1, 3, none⟩ = some (.int .i64 d.W.rows) ∧ w'.cell? ⟨w.heap.size + 1, 4, none⟩ = some (.int .i64 d.W.cols) ∧ w'.cell? ⟨w.heap.size + 1, 5, none⟩ = some (.slice a3 n3 k3)) (exact cells37 (t := 25) (u := 30) (by first | exact B1.k1 hb9 | exact B1.k) (by first | exact B2.k1 hb9 | exact B2.k)) ((first | (go_at_call 10; go_must (refine (pick_any A 12 _ hA'.1 hA'.2 (by decide) (by decide)).mono ?_); go_must (rw [HPA.out]); go_must (rintro e w8 ⟨rfl, rfl⟩)) | (go_at_call 9; go_must (rw [HWQ.out]); go_must (refine (againBack_any s.N d.I d.W anyB _ _ _ _ _ _ _ _ (show RowAt Form.lay _ anyB a0 n k0 b0 o0 s.N from h0.keep Below.x0) (MatAt.mk (show IntsAt _ a2 n2 k2 b2 o2 d.I.cells from x0.k)) (MatAt.mk (show IntsAt _ a3 n3 k3 b3 o3 d.W.cells from x1.k)) q hq1 hq2).mono ?_); go_must (rw [HAG.out]); go_must (rintro e w9 ⟨v9, o9, m9, rfl, hb9, hu9, _⟩))))
  have hk9 : Below w4.heap.size w4 w9 := (Below.x1 hb9)
  obtain ⟨rfl, rfl, a4, k4, b4, rfl, r4⟩ := hu9 trivial
  rw [HDD.out] at r4
  rw [HOO.out, HE0.out]
  have hkw9 : Below w4.heap.size w4 w9 := (Below.x1 hk9)
  replace B1 := B1.keep hkw9
  replace B1c := B1.cell
  replace B1f := B1.thawed
  replace B1z := B1.lt
  replace B1k := lt_add B1z
  replace B2 := B2.keep hkw9
  replace B2c := B2.cell
  replace B2f := B2.thawed
  replace B2z := B2.lt
  replace B2k := lt_add B2z
  replace B3 := B3.keep hkw9
  replace B3c := B3.cell
  replace B3f := B3.thawed
  replace B3z := B3.lt
  replace B3k := lt_add B3z
  replace B5 := B5.keep hkw9
  replace B5c := B5.cell
  replace B5f := B5.thawed
  replace B5z := B5.lt
  replace B5k := lt_add B5z
  replace h0 := h0.keep hkw9
  replace h1 := h1.keep hkw9
  replace x0 := x0.keep hkw9
  replace x1 := x1.keep hkw9
  replace q0 := q0.keep hkw9
  replace q1 := q1.keep hkw9
  clear hu9
  have hbw9 : Below w.heap.size w w9 := (by repeat (first | (with_reducible first | exact Below.refl _ _ | exact hbw3 | refine Below.al ?_ _ | refine Below.drN ?_ _ | refine Below.drew ?_ | refine Below.sx ?_ _ | refine Below.go ?_ hk9 | refine Below.go ?_ hb4) | exact Below.refl _ _ | exact hbw3))
  clear hb9 hb4
  go_wp2_with fail
  refine (stepDo_is s.N s.V D ln kp _ _ _ _ _ _ _ _ _ _ _ _ _ _ _ _ _ _ _ h0 h1 r4 ms gs HST.out HMS.out HGS.out).mono ?_
  rintro e w10 ⟨a5, b5, a6, b6, rfl, hb10, r5, r6⟩
  have hkw10 : Below w9.heap.size w9 w10 := (Below.x1 hb10)
  replace B1 := B1.keep hkw10
  replace B1c := B1.cell
  replace B1f := B1.thawed
  replace B1z := B1.lt
  replace B1k := lt_add B1z
  replace B3 := B3.keep hkw10
  replace B3c := B3.cell
  replace B3f := B3.thawed
  replace B3z := B3.lt
  replace B3k := lt_add B3z
  replace B5 := B5.keep hkw10
  replace B5c := B5.cell
  replace B5f := B5.thawed
  replace B5z := B5.lt
  replace B5k := lt_add B5z
  replace q0 := q0.keep hkw10
  replace q1 := q1.keep hkw10
  have hsw10 := hkw10.size
  have hst : s.steps + 1 ≤ 1000000001 := by omega
  go_wp2_with fail
  refine (topStates_same ⟨ms, gs, s.steps + 1⟩ _ _ _ ⟨_, _, _, _, _, _, _, _, _, _, rfl, r5.wide (fun _ _ _ => trivial), r6.wide (fun _ _ _ => trivial)⟩ ⟨_, _, _, _, _, _, _, _, _, _, rfl, q0.wide (fun _ _ _ => trivial), q1.wide (fun _ _ _ => trivial)⟩).mono ?_
  rintro e w11 ⟨rfl, hb11⟩
  have hbe : Below w.heap.size w w11 := (by repeat (first | (with_reducible first | exact Below.refl _ _ | exact hbw9 | refine Below.al ?_ _ | refine Below.drN ?_ _ | refine Below.drew ?_ | refine Below.sx ?_ _ | refine Below.go ?_ hb11 | refine Below.go ?_ hb10) | exact Below.refl _ _ | exact hbw9))
  clear h0 h1 q0 q1 r4 r5 r6
  go_wp2
  go_ret
  exact ⟨rfl, hbe⟩
 ·have HF := Lib.hid hf
  have HEV : Hid (errV (oneFault s d 1 ln kp) = .iface 62 (.int .i64 (oneFault s d 1 ln kp))) := Lib.hid (errV_err hf)
  clear hf hq
  go_enter Try.func3, Try.ntmps3
  go_wp2_with fail
  refine (topOne_any _).mono ?_
  rintro e w1 ⟨rfl, hb1⟩
  have B1 := ((show Box _ w.heap.size [.slice a0 n k0, .slice a1 n1 k1, .int .i64 s.steps] 25 from Box.x0)).keep hb1
  have B1c := B1.cell
  have B1f := B1.thawed
  have B1z := B1.lt
  have B1k := lt_add B1z
  have B2 := ((show Box _ (w.heap.size + 1) [.int .i64 d.I.rows, .int .i64 d.I.cols, .slice a2 n2 k2, .int .i64 d.W.rows, .int .i64 d.W.cols, .slice a3 n3 k3] 30 from Box.x0)).keep hb1
  have B2c := B2.cell
  have B2f := B2.thawed
  have B2z := B2.lt
  have B2k := lt_add B2z
  have B3 := ((show Box _ (w.heap.size + 1 + 1) [.int .i64 ln, .int .i64 kp] 32 from Box.x0)).keep hb1
  have B3c := B3.cell
  have B3f := B3.thawed
  have B3z := B3.lt
  have B3k := lt_add B3z
  have hkw1 : Below w.heap.size w w1 := (Below.x1 hb1)
  replace h0 := h0.keep hkw1
  replace h1 := h1.keep hkw1
  replace x0 := x0.keep hkw1
  replace x1 := x1.keep hkw1
  have hsw1 := hkw1.size
  go_wp2_with fail
  refine (topState_any s.steps a0 a1 n n1 k0 k1 _).mono ?_
  rintro e w2 ⟨rfl, hb2⟩
  have hkw2 : Below w1.heap.size w1 w2 := (Below.x1 hb2)
  replace B1 := B1.keep hkw2
  replace B1c := B1.cell
  replace B1f := B1.thawed
  replace B1z := B1.lt
  replace B1k := lt_add B1z
  replace B2 := B2.keep hkw2
  replace B2c := B2.cell
  replace B2f := B2.thawed
  replace B2z := B2.lt
  replace B2k := lt_add B2z
  replace B3 := B3.keep hkw2
  replace B3c := B3.cell
  replace B3f := B3.thawed
  replace B3z := B3.lt
  replace B3k := lt_add B3z
  replace h0 := h0.keep hkw2
  replace h1 := h1.keep hkw2
  replace x0 := x0.keep hkw2
  replace x1 := x1.keep hkw2
  have hsw2 := hkw2.size
  go_wp2_with fail
  refine (trainOne_any s d 1 ln kp anyB anyB _ _ _ _ _ _ _ _ _ _ _ _ (h0.alloc _) (h1.alloc _) ⟨a2, n2, k2, b2, o2, a3, n3, k3, b3, o3, rfl, x0.alloc _, x1.alloc _⟩).mono ?_
  unfold OneEnd
  rintro e w3 ⟨vO, off, rfl, hb3, _, hO⟩
  obtain ⟨rfl, rfl⟩ := hO HF.out
  rw [HEV.out]
  have hbe : Below w.heap.size w w3 := (by repeat (first | (with_reducible first | exact Below.refl _ _ | refine Below.al ?_ _ | refine Below.drN ?_ _ | refine Below.drew ?_ | refine Below.sx ?_ _ | refine Below.go ?_ hb3 | refine Below.go ?_ hb2 | refine Below.go ?_ hb1) | exact Below.refl _ _))
  clear h0 h1 x0 x1
  go_wp2
  go_ret
  exact ⟨rfl, (Below.y0 hbe)⟩
theorem own : ownKnob Try.prog.godebug = none := by kernel_rfl
theorem laidOut : laidOutB Try.prog = true := by kernel_rfl
set_option maxRecDepth 100000 in
theorem lifted (os : Os) (started : os.Started) (H : Type) (enc : TypeId × Value → H) :
  ReturnsInHanded {} Try.checked os 3 .any (Rows.topAgainSpec.pre6 enc Try.prog Try.f3 Rows.topAgainRow.domain false) (Rows.topAgainSpec.post enc Try.prog Try.f3 false true false false) := by
 refine returnsInHanded_of_change (C := Try.checked) own started (by kernel_rfl) Try.func3
  (ChangeSpec.witness6 (enc := enc) (C := Try.checked) false ⟨#[], #[.agg #[.slice none 0 0, .slice none 0 0, .int .i64 0], .agg #[.int .i64 0, .int .i64 0, .slice none 0 0, .int .i64 0, .int .i64 0, .slice none 0 0], .int .i64 0, .agg #[.int .i64 0, .int .i64 0]], []⟩ 8 (by kernel_rfl) (by kernel_rfl) (by kernel_rfl) (by kernel_rfl)) ?_
 intro W base args ds gs before hval0 hW hcnd hsz
 have hval : ∀ (j : Nat) t v, Try.f3.params[j]? = some t → args[j]? = some v → Value.okWide Try.prog W .any base t v := hval0
 have hW' := hW
 obtain ⟨p, q, hA0, hV, rfl, hfz, hnd⟩ := hW
 have hA : DataW.TrodAll enc Try.prog W 0 (fun _ => true) true Try.f3.params.toList args.toList ds p := hA0
 rw [Try.params3] at hA hval
 obtain ⟨v0, vs0, d0, ds0, p0, q0, hargs, rfl, rfl, h0, r0⟩ := trodAll_cons hA
 obtain ⟨v1, vs1, d1, ds1, p1, q1, rfl, rfl, rfl, h1, r1⟩ := trodAll_cons r0
 obtain ⟨v2, vs2, d2, ds2, p2, q2, rfl, rfl, rfl, h2, r2⟩ := trodAll_cons r1
 obtain ⟨v3, vs3, d3, ds3, p3, q3, rfl, rfl, rfl, h3, r3⟩ := trodAll_cons r2
 obtain ⟨rfl, rfl, rfl⟩ := trodAll_nil r3
 obtain rfl : args = #[v0, v1, v2, v3] := by cases args; simp_all
 obtain ⟨rfl, rfl⟩ := trodVars_none hV
 have k0 := h0
 have lt0 : ∀ x ∈ p0, x.block < W.heap.size := by obtain ⟨m, hm⟩ := k0; exact DataW.trod_lt m _ _ _ hm
 have k1 := h1
 have lt1 : ∀ x ∈ p1, x.block < W.heap.size := by obtain ⟨m, hm⟩ := k1; exact DataW.trod_lt m _ _ _ hm
 have k2 := h2
 have lt2 : ∀ x ∈ p2, x.block < W.heap.size := by obtain ⟨m, hm⟩ := k2; exact DataW.trod_lt m _ _ _ hm
 have k3 := h3
 have lt3 : ∀ x ∈ p3, x.block < W.heap.size := by obtain ⟨m, hm⟩ := k3; exact DataW.trod_lt m _ _ _ hm
 obtain ⟨a0, w0⟩ := open_galley_galleyref1_State (hval 0 25 v0 rfl rfl) h0
 obtain ⟨a1, w1⟩ := open_Batch (hval 1 30 v1 rfl rfl) h1
 obtain ⟨a2, rfl, rfl, rfl, w2⟩ := open_int Try.underlying3 (hval 2 3 v2 rfl rfl) h2
 obtain ⟨a3, w3⟩ := open_Rates (hval 3 32 v3 rfl rfl) h3
 clear hA0 hval0
 refine (walk a0 v0 a1 v1 a2 a3 v3 W w0 w1 w2 w3).mono fun e W' ⟨he, bel⟩ => ?_
 subst he
 exact ⟨_, rfl, _, _, _, [], _, [], hW', trodAll_mk1 (shut_bool Try.underlying4 _), (trodAll_cons_mk (Below.trod laidOut (by kernel_rfl) (of_decide_eq_true (by kernel_rfl)) k0 bel lt0) (trodAll_cons_mk (Below.trod laidOut (by kernel_rfl) (of_decide_eq_true (by kernel_rfl)) k1 bel lt1) (trodAll_cons_mk (Below.trod laidOut (by kernel_rfl) (of_decide_eq_true (by kernel_rfl)) k2 bel lt2) (trodAll_cons_mk (Below.trod laidOut (by kernel_rfl) (of_decide_eq_true (by kernel_rfl)) k3 bel lt3) trodAll_mk0)))), rfl, bel.frame _, fun h => by cases h⟩
theorem proved : Rows.TopAgainSaid :=
 OpenClaim.holds_of_wide_leaving 3 Try.f3 rfl rfl rfl rfl rfl rfl rfl ⟨rfl, rfl, rfl, rfl, rfl⟩ rfl rfl rfl rfl rfl (by kernel_rfl) Try.func3 (by kernel_rfl)
  (of_decide_eq_true (by kernel_rfl)) (by unfold Func.isWrapper; first | (rw [if_pos (by decide +kernel)]; kernel_rfl) | (rw [if_neg (by decide +kernel)]; exact ⟨rfl, rfl⟩))
  (fun os started H enc _ => leaving_of_handed (lifted os started H enc))
#print axioms proved
end Go.Proofs.Ytchngeagnlngaaa.lawTopAgain
