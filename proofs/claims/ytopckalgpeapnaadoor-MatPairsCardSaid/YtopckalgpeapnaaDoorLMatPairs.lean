/- MatPairs: of any two matrices, the sum and the product are the document's, or the fault is told: the law returns true, and the input reads as it did. No condition. -/
import Derived.Test.YtopckalgpeapnaaDoorCards
import Derived.Test.YtopckalgpeapnaaDoorTie
import Derived.Test.YtopckalgpeapnaaDoorUni
import Derived.Test.YtopckalgpeapnaaDoorOpen
import Derived.Deep.DeepHandedRow
set_option linter.unusedVariables false
set_option linter.unusedSimpArgs false
namespace Go.Proofs.YtopckalgpeapnaaDoor.lawMatPairs
open Go.ChangeShapes Go.WideShapes Go.ChangeAt Go.RowKit Gal

theorem loss_is (ma mb : Mat) : lossFault ma mb = if ma.fault = 0 then (if mb.fault = 0 then (if ma.rows = mb.rows ∧ ma.cols = mb.cols then 0 else 2) else mb.fault) else ma.fault := by
  unfold lossFault
  rw [firstFault_pair]
  by_cases h : ma.fault = 0 <;> by_cases h' : mb.fault = 0 <;> simp [h, h']
theorem mulF_is (ma mb : Mat) : mulFault ma mb = if ma.fault = 0 then (if mb.fault = 0 then (if ma.cols = mb.rows then 0 else 2) else mb.fault) else ma.fault := by
  unfold mulFault
  rw [firstFault_pair]
  by_cases h : ma.fault = 0 <;> by_cases h' : mb.fault = 0 <;> simp [h, h']


section
variable (ma : Mat) (mb : Mat) (a0 a1 : Option Addr) (n0 n1 k0 k1 b0 b1 o0 o1 : Nat) (w : World) (x0 : IntsAt w a0 n0 k0 b0 o0 ma.cells) (x1 : IntsAt w a1 n1 k1 b1 o1 mb.cells) (hh : Handle w)
include x0 x1 hh
set_option maxRecDepth 100000 in
set_option maxHeartbeats 2000000 in
theorem walk1 (hf : ma.fault ≠ 0) : Calls Tryd.prog 4 #[.agg #[.int .i64 ma.rows, .int .i64 ma.cols, .slice a0 n0 k0], .agg #[.int .i64 mb.rows, .int .i64 mb.cols, .slice a1 n1 k1]] w fun e w' => e = .returned (.bool true) ∧ Below w.heap.size w w' := by
  have HL := Lib.hid (show lossFault ma mb = ma.fault by rw [loss_is, if_neg hf])
  have HM := Lib.hid (show mulFault ma mb = ma.fault by rw [mulF_is, if_neg hf])
  have q1 : (ma.fault == 0) = false := by simp [hf]
  have HF := Lib.hid hf
  clear hf
  go_enter Tryd.func4, Tryd.ntmps4
  go_wp2_with fail
  refine (refMatFault_any ma _ _ (MatAt.mk (x0.alloc _ |>.alloc _))).mono ?_
  rw [show ma.fault = ma.fault from rfl]
  rintro e w1 ⟨rfl, hb1⟩
  have B0 := ((Box.new w _ 25).alloc _).keep hb1
  have B0c := B0.cell
  have B0f := B0.thawed
  have B0z := B0.lt
  have B0k := lt_add B0z
  have B1 := (Box.new' _ (w.heap.size + 1) _ 25 (by simp)).keep hb1
  have B1c := B1.cell
  have B1f := B1.thawed
  have B1z := B1.lt
  have B1k := lt_add B1z
  have hkw1 : Below w.heap.size w w1 := (by repeat (first | exact Below.refl _ _ | refine Below.al ?_ _ | refine Below.drN ?_ _ | refine Below.drew ?_ | refine Below.st ?_ (by first | (dsimp only; omega) | (simp; omega) | simp) _ | refine Below.go ?_ hb1))
  replace x0 := x0.keep hkw1
  replace x1 := x1.keep hkw1
  replace hh := hh.keep hkw1
  have hsw1 := hkw1.size
  go_wp2_with fail
  refine (matCheck_any _ _ _ _ _ _ _ ma.cells _ x0).mono ?_
  rw [show matFault ma.rows ma.cols ma.cells = ma.fault from rfl]
  rintro e w2 ⟨rfl, hb2⟩
  have hkw2 : Below w1.heap.size w1 w2 := (by repeat (first | exact Below.refl _ _ | refine Below.al ?_ _ | refine Below.drN ?_ _ | refine Below.drew ?_ | refine Below.st ?_ (by first | (dsimp only; omega) | (simp; omega) | simp) _ | refine Below.go ?_ hb2))
  replace B0 := B0.keep hkw2
  replace B0c := B0.cell
  replace B0f := B0.thawed
  replace B0z := B0.lt
  replace B0k := lt_add B0z
  replace B1 := B1.keep hkw2
  replace B1c := B1.cell
  replace B1f := B1.thawed
  replace B1z := B1.lt
  replace B1k := lt_add B1z
  replace x0 := x0.keep hkw2
  replace x1 := x1.keep hkw2
  replace hh := hh.keep hkw2
  have hsw2 := hkw2.size
  go_wp2_with fail
  refine (error_same _ _ hh).mono ?_
  rintro e w3 ⟨rfl, hb3⟩
  have hkw3 : Below w2.heap.size w2 w3 := (by repeat (first | exact Below.refl _ _ | refine Below.al ?_ _ | refine Below.drN ?_ _ | refine Below.drew ?_ | refine Below.st ?_ (by first | (dsimp only; omega) | (simp; omega) | simp) _ | refine Below.go ?_ hb3))
  replace B0 := B0.keep hkw3
  replace B0c := B0.cell
  replace B0f := B0.thawed
  replace B0z := B0.lt
  replace B0k := lt_add B0z
  replace B1 := B1.keep hkw3
  replace B1c := B1.cell
  replace B1f := B1.thawed
  replace B1z := B1.lt
  replace B1k := lt_add B1z
  replace x0 := x0.keep hkw3
  replace x1 := x1.keep hkw3
  replace hh := hh.keep hkw3
  have hsw3 := hkw3.size
  obtain ⟨w4, rfl⟩ : ∃ w4, w4 = w3 := ⟨_, rfl⟩
  go_wp2_with fail
  refine (matAdd_any ma mb _ _ _ (MatAt.mk x0) (MatAt.mk x1)).mono ?_
  rw [HL.out, orNone_bad HF.out]
  rintro e w5 ⟨v5, rfl, ⟨asx, ns, ks, bs, osx, rfl, hns, xs⟩, hb5⟩
  have hkw5 : Below w4.heap.size w4 w5 := (by repeat (first | exact Below.refl _ _ | refine Below.al ?_ _ | refine Below.drN ?_ _ | refine Below.drew ?_ | refine Below.st ?_ (by first | (dsimp only; omega) | (simp; omega) | simp) _ | refine Below.go ?_ hb5))
  replace B0 := B0.keep hkw5
  replace B0c := B0.cell
  replace B0f := B0.thawed
  replace B0z := B0.lt
  replace B0k := lt_add B0z
  replace B1 := B1.keep hkw5
  replace B1c := B1.cell
  replace B1f := B1.thawed
  replace B1z := B1.lt
  replace B1k := lt_add B1z
  replace x0 := x0.keep hkw5
  replace x1 := x1.keep hkw5
  replace hh := hh.keep hkw5
  have hsw5 := hkw5.size
  go_wp2_with fail
  refine (matMul_all ma mb _ _ _ (MatAt.mk (x0.alloc _)) (MatAt.mk (x1.alloc _))).mono ?_
  rw [HM.out, orNone_bad HF.out]
  rintro e w6 ⟨v6, rfl, ⟨ap, np, kp, bp, op, rfl, xp⟩, hb6⟩
  have Bs := (Box.new w5 _ 25).keep hb6
  have Bsc := Bs.cell
  have Bsf := Bs.thawed
  have Bsz := Bs.lt
  have Bsk := lt_add Bsz
  have hkw6 : Below w5.heap.size w5 w6 := (by repeat (first | exact Below.refl _ _ | refine Below.al ?_ _ | refine Below.drN ?_ _ | refine Below.drew ?_ | refine Below.st ?_ (by first | (dsimp only; omega) | (simp; omega) | simp) _ | refine Below.go ?_ hb6))
  replace B0 := B0.keep hkw6
  replace B0c := B0.cell
  replace B0f := B0.thawed
  replace B0z := B0.lt
  replace B0k := lt_add B0z
  replace B1 := B1.keep hkw6
  replace B1c := B1.cell
  replace B1f := B1.thawed
  replace B1z := B1.lt
  replace B1k := lt_add B1z
  replace x0 := x0.keep hkw6
  replace x1 := x1.keep hkw6
  replace xs := xs.keep hkw6
  replace hh := hh.keep hkw6
  have hsw6 := hkw6.size
  go_wp2_with fail
  refine (error_same _ _ (hh.alloc _)).mono ?_
  rintro e w7 ⟨rfl, hb7⟩
  have Bp := (Box.new w6 _ 25).keep hb7
  have Bpc := Bp.cell
  have Bpf := Bp.thawed
  have Bpz := Bp.lt
  have Bpk := lt_add Bpz
  have hkw7 : Below w6.heap.size w6 w7 := (by repeat (first | exact Below.refl _ _ | refine Below.al ?_ _ | refine Below.drN ?_ _ | refine Below.drew ?_ | refine Below.st ?_ (by first | (dsimp only; omega) | (simp; omega) | simp) _ | refine Below.go ?_ hb7))
  replace B0 := B0.keep hkw7
  replace B0c := B0.cell
  replace B0f := B0.thawed
  replace B0z := B0.lt
  replace B0k := lt_add B0z
  replace B1 := B1.keep hkw7
  replace B1c := B1.cell
  replace B1f := B1.thawed
  replace B1z := B1.lt
  replace B1k := lt_add B1z
  replace Bs := Bs.keep hkw7
  replace Bsc := Bs.cell
  replace Bsf := Bs.thawed
  replace Bsz := Bs.lt
  replace Bsk := lt_add Bsz
  replace x0 := x0.keep hkw7
  replace x1 := x1.keep hkw7
  replace xs := xs.keep hkw7
  replace xp := xp.keep hkw7
  replace hh := hh.keep hkw7
  have hsw7 := hkw7.size
  go_wp2_with fail
  refine (error_same _ _ hh).mono ?_
  rintro e w8 ⟨rfl, hb8⟩
  have hkw8 : Below w7.heap.size w7 w8 := (by repeat (first | exact Below.refl _ _ | refine Below.al ?_ _ | refine Below.drN ?_ _ | refine Below.drew ?_ | refine Below.st ?_ (by first | (dsimp only; omega) | (simp; omega) | simp) _ | refine Below.go ?_ hb8))
  replace B0 := B0.keep hkw8
  replace B0c := B0.cell
  replace B0f := B0.thawed
  replace B0z := B0.lt
  replace B0k := lt_add B0z
  replace B1 := B1.keep hkw8
  replace B1c := B1.cell
  replace B1f := B1.thawed
  replace B1z := B1.lt
  replace B1k := lt_add B1z
  replace Bs := Bs.keep hkw8
  replace Bsc := Bs.cell
  replace Bsf := Bs.thawed
  replace Bsz := Bs.lt
  replace Bsk := lt_add Bsz
  replace Bp := Bp.keep hkw8
  replace Bpc := Bp.cell
  replace Bpf := Bp.thawed
  replace Bpz := Bp.lt
  replace Bpk := lt_add Bpz
  replace x0 := x0.keep hkw8
  replace x1 := x1.keep hkw8
  replace xs := xs.keep hkw8
  replace xp := xp.keep hkw8
  replace hh := hh.keep hkw8
  have hsw8 := hkw8.size
  have lp := xp.lt
  have ls := xs.lt
  have qn1 : w8.heap.size ≠ w.heap.size := by omega
  have qm1 : w.heap.size ≠ w8.heap.size := by omega
  have qn2 : w8.heap.size ≠ w.heap.size+1 := by omega
  have qm2 : w.heap.size+1 ≠ w8.heap.size := by omega
  have qn3 : w8.heap.size ≠ w5.heap.size := by omega
  have qm3 : w5.heap.size ≠ w8.heap.size := by omega
  have qn4 : w8.heap.size ≠ w6.heap.size := by omega
  have qm4 : w6.heap.size ≠ w8.heap.size := by omega
  go_wp2_with fail
  refine (matrices_same Mat.none _ _ _ (MatAt.mk (xs.alloc _)) (none_at _)).mono ?_
  rintro e w9 ⟨rfl, hb9⟩
  have Bw := (Box.new w8 [.int .i64 0, .int .i64 0, .slice none 0 0] 25).keep hb9
  have Bwc := Bw.cell
  have Bwf := Bw.thawed
  have Bwz := Bw.lt
  have Bwk := lt_add Bwz
  have hkw9 : Below w8.heap.size w8 w9 := (by repeat (first | exact Below.refl _ _ | refine Below.al ?_ _ | refine Below.drN ?_ _ | refine Below.drew ?_ | refine Below.st ?_ (by first | (dsimp only; omega) | (simp; omega) | simp) _ | refine Below.go ?_ hb9))
  replace B0 := B0.keep hkw9
  replace B0c := B0.cell
  replace B0f := B0.thawed
  replace B0z := B0.lt
  replace B0k := lt_add B0z
  replace B1 := B1.keep hkw9
  replace B1c := B1.cell
  replace B1f := B1.thawed
  replace B1z := B1.lt
  replace B1k := lt_add B1z
  replace Bp := Bp.keep hkw9
  replace Bpc := Bp.cell
  replace Bpf := Bp.thawed
  replace Bpz := Bp.lt
  replace Bpk := lt_add Bpz
  replace x0 := x0.keep hkw9
  replace x1 := x1.keep hkw9
  replace xp := xp.keep hkw9
  have hsw9 := hkw9.size
  go_wp2_with fail
  refine (matrices_same Mat.none _ _ _ (MatAt.set3 (B := w8.heap.size) xp (fun h => by have := lp h; omega) _ _ _) (none_at _)).mono ?_
  rintro e w10 ⟨rfl, hb10⟩
  go_wp2
  go_ret
  exact ⟨rfl, (by repeat (first | exact Below.refl _ _ | refine Below.al ?_ _ | refine Below.drN ?_ _ | refine Below.drew ?_ | refine Below.st ?_ (by first | (dsimp only; omega) | (simp; omega) | simp) _ | refine Below.go ?_ hb10 | refine Below.go ?_ hb9 | refine Below.go ?_ hb8 | refine Below.go ?_ hb7 | refine Below.go ?_ hb6 | refine Below.go ?_ hb5 | refine Below.go ?_ hb3 | refine Below.go ?_ hb2 | refine Below.go ?_ hb1))⟩
set_option maxRecDepth 100000 in
set_option maxHeartbeats 2000000 in
theorem walk2 (fa : ma.fault = 0) (hf : mb.fault ≠ 0) : Calls Tryd.prog 4 #[.agg #[.int .i64 ma.rows, .int .i64 ma.cols, .slice a0 n0 k0], .agg #[.int .i64 mb.rows, .int .i64 mb.cols, .slice a1 n1 k1]] w fun e w' => e = .returned (.bool true) ∧ Below w.heap.size w w' := by
  have HL := Lib.hid (show lossFault ma mb = mb.fault by rw [loss_is, if_pos fa, if_neg hf])
  have HM := Lib.hid (show mulFault ma mb = mb.fault by rw [mulF_is, if_pos fa, if_neg hf])
  have q1 : (mb.fault == 0) = false := by simp [hf]
  have HF := Lib.hid hf
  have F0 := Lib.hid (show matFault ma.rows ma.cols ma.cells = 0 from fa)
  have F0' := Lib.hid fa
  clear hf fa
  go_enter Tryd.func4, Tryd.ntmps4
  go_wp2_with fail
  refine (refMatFault_any ma _ _ (MatAt.mk (x0.alloc _ |>.alloc _))).mono ?_
  rw [F0'.out]
  rintro e w1 ⟨rfl, hb1⟩
  have B0 := ((Box.new w _ 25).alloc _).keep hb1
  have B0c := B0.cell
  have B0f := B0.thawed
  have B0z := B0.lt
  have B0k := lt_add B0z
  have B1 := (Box.new' _ (w.heap.size + 1) _ 25 (by simp)).keep hb1
  have B1c := B1.cell
  have B1f := B1.thawed
  have B1z := B1.lt
  have B1k := lt_add B1z
  have hkw1 : Below w.heap.size w w1 := (by repeat (first | exact Below.refl _ _ | refine Below.al ?_ _ | refine Below.drN ?_ _ | refine Below.drew ?_ | refine Below.st ?_ (by first | (dsimp only; omega) | (simp; omega) | simp) _ | refine Below.go ?_ hb1))
  replace x0 := x0.keep hkw1
  replace x1 := x1.keep hkw1
  replace hh := hh.keep hkw1
  have hsw1 := hkw1.size
  go_wp2_with fail
  refine (matCheck_any _ _ _ _ _ _ _ ma.cells _ x0).mono ?_
  rw [F0.out]
  rintro e w2 ⟨rfl, hb2⟩
  have hkw2 : Below w1.heap.size w1 w2 := (by repeat (first | exact Below.refl _ _ | refine Below.al ?_ _ | refine Below.drN ?_ _ | refine Below.drew ?_ | refine Below.st ?_ (by first | (dsimp only; omega) | (simp; omega) | simp) _ | refine Below.go ?_ hb2))
  replace B0 := B0.keep hkw2
  replace B0c := B0.cell
  replace B0f := B0.thawed
  replace B0z := B0.lt
  replace B0k := lt_add B0z
  replace B1 := B1.keep hkw2
  replace B1c := B1.cell
  replace B1f := B1.thawed
  replace B1z := B1.lt
  replace B1k := lt_add B1z
  replace x0 := x0.keep hkw2
  replace x1 := x1.keep hkw2
  replace hh := hh.keep hkw2
  have hsw2 := hkw2.size
  go_wp2_with fail
  refine (error_same _ _ hh).mono ?_
  rintro e w3 ⟨rfl, hb3⟩
  have hkw3 : Below w2.heap.size w2 w3 := (by repeat (first | exact Below.refl _ _ | refine Below.al ?_ _ | refine Below.drN ?_ _ | refine Below.drew ?_ | refine Below.st ?_ (by first | (dsimp only; omega) | (simp; omega) | simp) _ | refine Below.go ?_ hb3))
  replace B0 := B0.keep hkw3
  replace B0c := B0.cell
  replace B0f := B0.thawed
  replace B0z := B0.lt
  replace B0k := lt_add B0z
  replace B1 := B1.keep hkw3
  replace B1c := B1.cell
  replace B1f := B1.thawed
  replace B1z := B1.lt
  replace B1k := lt_add B1z
  replace x0 := x0.keep hkw3
  replace x1 := x1.keep hkw3
  replace hh := hh.keep hkw3
  have hsw3 := hkw3.size
  go_wp2_with fail
  refine (refMatFault_any mb _ _ (MatAt.mk x1)).mono ?_
  rw [show mb.fault = mb.fault from rfl]
  rintro e w4 ⟨rfl, hb4⟩
  have hkw4 : Below w3.heap.size w3 w4 := (by repeat (first | exact Below.refl _ _ | refine Below.al ?_ _ | refine Below.drN ?_ _ | refine Below.drew ?_ | refine Below.st ?_ (by first | (dsimp only; omega) | (simp; omega) | simp) _ | refine Below.go ?_ hb4))
  replace B0 := B0.keep hkw4
  replace B0c := B0.cell
  replace B0f := B0.thawed
  replace B0z := B0.lt
  replace B0k := lt_add B0z
  replace B1 := B1.keep hkw4
  replace B1c := B1.cell
  replace B1f := B1.thawed
  replace B1z := B1.lt
  replace B1k := lt_add B1z
  replace x0 := x0.keep hkw4
  replace x1 := x1.keep hkw4
  replace hh := hh.keep hkw4
  have hsw4 := hkw4.size
  go_wp2_with fail
  refine (matAdd_any ma mb _ _ _ (MatAt.mk x0) (MatAt.mk x1)).mono ?_
  rw [HL.out, orNone_bad HF.out]
  rintro e w5 ⟨v5, rfl, ⟨asx, ns, ks, bs, osx, rfl, hns, xs⟩, hb5⟩
  have hkw5 : Below w4.heap.size w4 w5 := (by repeat (first | exact Below.refl _ _ | refine Below.al ?_ _ | refine Below.drN ?_ _ | refine Below.drew ?_ | refine Below.st ?_ (by first | (dsimp only; omega) | (simp; omega) | simp) _ | refine Below.go ?_ hb5))
  replace B0 := B0.keep hkw5
  replace B0c := B0.cell
  replace B0f := B0.thawed
  replace B0z := B0.lt
  replace B0k := lt_add B0z
  replace B1 := B1.keep hkw5
  replace B1c := B1.cell
  replace B1f := B1.thawed
  replace B1z := B1.lt
  replace B1k := lt_add B1z
  replace x0 := x0.keep hkw5
  replace x1 := x1.keep hkw5
  replace hh := hh.keep hkw5
  have hsw5 := hkw5.size
  go_wp2_with fail
  refine (matMul_all ma mb _ _ _ (MatAt.mk (x0.alloc _)) (MatAt.mk (x1.alloc _))).mono ?_
  rw [HM.out, orNone_bad HF.out]
  rintro e w6 ⟨v6, rfl, ⟨ap, np, kp, bp, op, rfl, xp⟩, hb6⟩
  have Bs := (Box.new w5 _ 25).keep hb6
  have Bsc := Bs.cell
  have Bsf := Bs.thawed
  have Bsz := Bs.lt
  have Bsk := lt_add Bsz
  have hkw6 : Below w5.heap.size w5 w6 := (by repeat (first | exact Below.refl _ _ | refine Below.al ?_ _ | refine Below.drN ?_ _ | refine Below.drew ?_ | refine Below.st ?_ (by first | (dsimp only; omega) | (simp; omega) | simp) _ | refine Below.go ?_ hb6))
  replace B0 := B0.keep hkw6
  replace B0c := B0.cell
  replace B0f := B0.thawed
  replace B0z := B0.lt
  replace B0k := lt_add B0z
  replace B1 := B1.keep hkw6
  replace B1c := B1.cell
  replace B1f := B1.thawed
  replace B1z := B1.lt
  replace B1k := lt_add B1z
  replace x0 := x0.keep hkw6
  replace x1 := x1.keep hkw6
  replace xs := xs.keep hkw6
  replace hh := hh.keep hkw6
  have hsw6 := hkw6.size
  go_wp2_with fail
  refine (error_same _ _ (hh.alloc _)).mono ?_
  rintro e w7 ⟨rfl, hb7⟩
  have Bp := (Box.new w6 _ 25).keep hb7
  have Bpc := Bp.cell
  have Bpf := Bp.thawed
  have Bpz := Bp.lt
  have Bpk := lt_add Bpz
  have hkw7 : Below w6.heap.size w6 w7 := (by repeat (first | exact Below.refl _ _ | refine Below.al ?_ _ | refine Below.drN ?_ _ | refine Below.drew ?_ | refine Below.st ?_ (by first | (dsimp only; omega) | (simp; omega) | simp) _ | refine Below.go ?_ hb7))
  replace B0 := B0.keep hkw7
  replace B0c := B0.cell
  replace B0f := B0.thawed
  replace B0z := B0.lt
  replace B0k := lt_add B0z
  replace B1 := B1.keep hkw7
  replace B1c := B1.cell
  replace B1f := B1.thawed
  replace B1z := B1.lt
  replace B1k := lt_add B1z
  replace Bs := Bs.keep hkw7
  replace Bsc := Bs.cell
  replace Bsf := Bs.thawed
  replace Bsz := Bs.lt
  replace Bsk := lt_add Bsz
  replace x0 := x0.keep hkw7
  replace x1 := x1.keep hkw7
  replace xs := xs.keep hkw7
  replace xp := xp.keep hkw7
  replace hh := hh.keep hkw7
  have hsw7 := hkw7.size
  go_wp2_with fail
  refine (error_same _ _ hh).mono ?_
  rintro e w8 ⟨rfl, hb8⟩
  have hkw8 : Below w7.heap.size w7 w8 := (by repeat (first | exact Below.refl _ _ | refine Below.al ?_ _ | refine Below.drN ?_ _ | refine Below.drew ?_ | refine Below.st ?_ (by first | (dsimp only; omega) | (simp; omega) | simp) _ | refine Below.go ?_ hb8))
  replace B0 := B0.keep hkw8
  replace B0c := B0.cell
  replace B0f := B0.thawed
  replace B0z := B0.lt
  replace B0k := lt_add B0z
  replace B1 := B1.keep hkw8
  replace B1c := B1.cell
  replace B1f := B1.thawed
  replace B1z := B1.lt
  replace B1k := lt_add B1z
  replace Bs := Bs.keep hkw8
  replace Bsc := Bs.cell
  replace Bsf := Bs.thawed
  replace Bsz := Bs.lt
  replace Bsk := lt_add Bsz
  replace Bp := Bp.keep hkw8
  replace Bpc := Bp.cell
  replace Bpf := Bp.thawed
  replace Bpz := Bp.lt
  replace Bpk := lt_add Bpz
  replace x0 := x0.keep hkw8
  replace x1 := x1.keep hkw8
  replace xs := xs.keep hkw8
  replace xp := xp.keep hkw8
  replace hh := hh.keep hkw8
  have hsw8 := hkw8.size
  have lp := xp.lt
  have ls := xs.lt
  have qn5 : w8.heap.size ≠ w.heap.size := by omega
  have qm5 : w.heap.size ≠ w8.heap.size := by omega
  have qn6 : w8.heap.size ≠ w.heap.size+1 := by omega
  have qm6 : w.heap.size+1 ≠ w8.heap.size := by omega
  have qn7 : w8.heap.size ≠ w5.heap.size := by omega
  have qm7 : w5.heap.size ≠ w8.heap.size := by omega
  have qn8 : w8.heap.size ≠ w6.heap.size := by omega
  have qm8 : w6.heap.size ≠ w8.heap.size := by omega
  go_wp2_with fail
  refine (matrices_same Mat.none _ _ _ (MatAt.mk (xs.alloc _)) (none_at _)).mono ?_
  rintro e w9 ⟨rfl, hb9⟩
  have Bw := (Box.new w8 [.int .i64 0, .int .i64 0, .slice none 0 0] 25).keep hb9
  have Bwc := Bw.cell
  have Bwf := Bw.thawed
  have Bwz := Bw.lt
  have Bwk := lt_add Bwz
  have hkw9 : Below w8.heap.size w8 w9 := (by repeat (first | exact Below.refl _ _ | refine Below.al ?_ _ | refine Below.drN ?_ _ | refine Below.drew ?_ | refine Below.st ?_ (by first | (dsimp only; omega) | (simp; omega) | simp) _ | refine Below.go ?_ hb9))
  replace B0 := B0.keep hkw9
  replace B0c := B0.cell
  replace B0f := B0.thawed
  replace B0z := B0.lt
  replace B0k := lt_add B0z
  replace B1 := B1.keep hkw9
  replace B1c := B1.cell
  replace B1f := B1.thawed
  replace B1z := B1.lt
  replace B1k := lt_add B1z
  replace Bp := Bp.keep hkw9
  replace Bpc := Bp.cell
  replace Bpf := Bp.thawed
  replace Bpz := Bp.lt
  replace Bpk := lt_add Bpz
  replace x0 := x0.keep hkw9
  replace x1 := x1.keep hkw9
  replace xp := xp.keep hkw9
  have hsw9 := hkw9.size
  go_wp2_with fail
  refine (matrices_same Mat.none _ _ _ (MatAt.set3 (B := w8.heap.size) xp (fun h => by have := lp h; omega) _ _ _) (none_at _)).mono ?_
  rintro e w10 ⟨rfl, hb10⟩
  go_wp2
  go_ret
  exact ⟨rfl, (by repeat (first | exact Below.refl _ _ | refine Below.al ?_ _ | refine Below.drN ?_ _ | refine Below.drew ?_ | refine Below.st ?_ (by first | (dsimp only; omega) | (simp; omega) | simp) _ | refine Below.go ?_ hb10 | refine Below.go ?_ hb9 | refine Below.go ?_ hb8 | refine Below.go ?_ hb7 | refine Below.go ?_ hb6 | refine Below.go ?_ hb5 | refine Below.go ?_ hb4 | refine Below.go ?_ hb3 | refine Below.go ?_ hb2 | refine Below.go ?_ hb1))⟩

set_option maxRecDepth 100000 in
set_option maxHeartbeats 2000000 in
theorem walk3a (fa : ma.fault = 0) (fb : mb.fault = 0) (q1 : (ma.rows != mb.rows) = false) (q2 : (ma.cols != mb.cols) = false) (q3 : (ma.cols != mb.rows) = false) (HL : Hid (lossFault ma mb = 0)) (HM : Hid (mulFault ma mb = 0)) : Calls Tryd.prog 4 #[.agg #[.int .i64 ma.rows, .int .i64 ma.cols, .slice a0 n0 k0], .agg #[.int .i64 mb.rows, .int .i64 mb.cols, .slice a1 n1 k1]] w fun e w' => e = .returned (.bool true) ∧ Below w.heap.size w w' := by
  have F0 := Lib.hid (show matFault ma.rows ma.cols ma.cells = 0 from fa)
  have F0' := Lib.hid fa
  have F1 := Lib.hid fb
  clear fa fb
  have l0 := x0.lt
  have l1 := x1.lt
  go_enter Tryd.func4, Tryd.ntmps4
  go_wp2_with fail
  refine (refMatFault_any ma _ _ (MatAt.mk (x0.alloc _ |>.alloc _))).mono ?_
  rw [F0'.out]
  rintro e w1 ⟨rfl, hb1⟩
  have B0 := ((Box.new w _ 25).alloc _).keep hb1
  have B0c := B0.cell
  have B0f := B0.thawed
  have B0z := B0.lt
  have B0k := lt_add B0z
  have B1 := (Box.new' _ (w.heap.size + 1) _ 25 (by simp)).keep hb1
  have B1c := B1.cell
  have B1f := B1.thawed
  have B1z := B1.lt
  have B1k := lt_add B1z
  have hkw1 : Below w.heap.size w w1 := (by repeat (first | exact Below.refl _ _ | refine Below.al ?_ _ | refine Below.drN ?_ _ | refine Below.drew ?_ | refine Below.st ?_ (by first | (dsimp only; omega) | (simp; omega) | simp) _ | refine Below.go ?_ hb1))
  replace x0 := x0.keep hkw1
  replace x1 := x1.keep hkw1
  replace hh := hh.keep hkw1
  have hsw1 := hkw1.size
  go_wp2_with fail
  refine (matCheck_any _ _ _ _ _ _ _ ma.cells _ x0).mono ?_
  rw [F0.out]
  rintro e w2 ⟨rfl, hb2⟩
  have hkw2 : Below w1.heap.size w1 w2 := (by repeat (first | exact Below.refl _ _ | refine Below.al ?_ _ | refine Below.drN ?_ _ | refine Below.drew ?_ | refine Below.st ?_ (by first | (dsimp only; omega) | (simp; omega) | simp) _ | refine Below.go ?_ hb2))
  replace B0 := B0.keep hkw2
  replace B0c := B0.cell
  replace B0f := B0.thawed
  replace B0z := B0.lt
  replace B0k := lt_add B0z
  replace B1 := B1.keep hkw2
  replace B1c := B1.cell
  replace B1f := B1.thawed
  replace B1z := B1.lt
  replace B1k := lt_add B1z
  replace x0 := x0.keep hkw2
  replace x1 := x1.keep hkw2
  replace hh := hh.keep hkw2
  have hsw2 := hkw2.size
  go_wp2_with fail
  refine (error_same _ _ hh).mono ?_
  rintro e w3 ⟨rfl, hb3⟩
  have hkw3 : Below w2.heap.size w2 w3 := (by repeat (first | exact Below.refl _ _ | refine Below.al ?_ _ | refine Below.drN ?_ _ | refine Below.drew ?_ | refine Below.st ?_ (by first | (dsimp only; omega) | (simp; omega) | simp) _ | refine Below.go ?_ hb3))
  replace B0 := B0.keep hkw3
  replace B0c := B0.cell
  replace B0f := B0.thawed
  replace B0z := B0.lt
  replace B0k := lt_add B0z
  replace B1 := B1.keep hkw3
  replace B1c := B1.cell
  replace B1f := B1.thawed
  replace B1z := B1.lt
  replace B1k := lt_add B1z
  replace x0 := x0.keep hkw3
  replace x1 := x1.keep hkw3
  replace hh := hh.keep hkw3
  have hsw3 := hkw3.size
  go_wp2_with fail
  refine (refMatFault_any mb _ _ (MatAt.mk x1)).mono ?_
  rw [F1.out]
  rintro e w4 ⟨rfl, hb4⟩
  have hkw4 : Below w3.heap.size w3 w4 := (by repeat (first | exact Below.refl _ _ | refine Below.al ?_ _ | refine Below.drN ?_ _ | refine Below.drew ?_ | refine Below.st ?_ (by first | (dsimp only; omega) | (simp; omega) | simp) _ | refine Below.go ?_ hb4))
  replace B0 := B0.keep hkw4
  replace B0c := B0.cell
  replace B0f := B0.thawed
  replace B0z := B0.lt
  replace B0k := lt_add B0z
  replace B1 := B1.keep hkw4
  replace B1c := B1.cell
  replace B1f := B1.thawed
  replace B1z := B1.lt
  replace B1k := lt_add B1z
  replace x0 := x0.keep hkw4
  replace x1 := x1.keep hkw4
  replace hh := hh.keep hkw4
  have hsw4 := hkw4.size
  go_wp2_with fail
  refine (matAdd_any ma mb _ _ _ (MatAt.mk x0) (MatAt.mk x1)).mono ?_
  rw [HL.out, orNone_ok rfl]
  rintro e w5 ⟨v5, rfl, ⟨asx, ns, ks, bs, osx, rfl, hns, xs⟩, hb5⟩
  have hkw5 : Below w4.heap.size w4 w5 := (by repeat (first | exact Below.refl _ _ | refine Below.al ?_ _ | refine Below.drN ?_ _ | refine Below.drew ?_ | refine Below.st ?_ (by first | (dsimp only; omega) | (simp; omega) | simp) _ | refine Below.go ?_ hb5))
  replace B0 := B0.keep hkw5
  replace B0c := B0.cell
  replace B0f := B0.thawed
  replace B0z := B0.lt
  replace B0k := lt_add B0z
  replace B1 := B1.keep hkw5
  replace B1c := B1.cell
  replace B1f := B1.thawed
  replace B1z := B1.lt
  replace B1k := lt_add B1z
  replace x0 := x0.keep hkw5
  replace x1 := x1.keep hkw5
  replace hh := hh.keep hkw5
  have hsw5 := hkw5.size
  go_wp2_with fail
  refine (matMul_all ma mb _ _ _ (MatAt.mk (x0.alloc _)) (MatAt.mk (x1.alloc _))).mono ?_
  rw [HM.out, orNone_ok rfl]
  rintro e w6 ⟨v6, rfl, ⟨ap, np, kp, bp, op, rfl, xp⟩, hb6⟩
  have Bs := (Box.new w5 _ 25).keep hb6
  have Bsc := Bs.cell
  have Bsf := Bs.thawed
  have Bsz := Bs.lt
  have Bsk := lt_add Bsz
  have hkw6 : Below w5.heap.size w5 w6 := (by repeat (first | exact Below.refl _ _ | refine Below.al ?_ _ | refine Below.drN ?_ _ | refine Below.drew ?_ | refine Below.st ?_ (by first | (dsimp only; omega) | (simp; omega) | simp) _ | refine Below.go ?_ hb6))
  replace B0 := B0.keep hkw6
  replace B0c := B0.cell
  replace B0f := B0.thawed
  replace B0z := B0.lt
  replace B0k := lt_add B0z
  replace B1 := B1.keep hkw6
  replace B1c := B1.cell
  replace B1f := B1.thawed
  replace B1z := B1.lt
  replace B1k := lt_add B1z
  replace x0 := x0.keep hkw6
  replace x1 := x1.keep hkw6
  replace xs := xs.keep hkw6
  replace hh := hh.keep hkw6
  have hsw6 := hkw6.size
  go_wp2_with fail
  refine (error_same _ _ (hh.alloc _)).mono ?_
  rintro e w7 ⟨rfl, hb7⟩
  have Bp := (Box.new w6 _ 25).keep hb7
  have Bpc := Bp.cell
  have Bpf := Bp.thawed
  have Bpz := Bp.lt
  have Bpk := lt_add Bpz
  have hkw7 : Below w6.heap.size w6 w7 := (by repeat (first | exact Below.refl _ _ | refine Below.al ?_ _ | refine Below.drN ?_ _ | refine Below.drew ?_ | refine Below.st ?_ (by first | (dsimp only; omega) | (simp; omega) | simp) _ | refine Below.go ?_ hb7))
  replace B0 := B0.keep hkw7
  replace B0c := B0.cell
  replace B0f := B0.thawed
  replace B0z := B0.lt
  replace B0k := lt_add B0z
  replace B1 := B1.keep hkw7
  replace B1c := B1.cell
  replace B1f := B1.thawed
  replace B1z := B1.lt
  replace B1k := lt_add B1z
  replace Bs := Bs.keep hkw7
  replace Bsc := Bs.cell
  replace Bsf := Bs.thawed
  replace Bsz := Bs.lt
  replace Bsk := lt_add Bsz
  replace x0 := x0.keep hkw7
  replace x1 := x1.keep hkw7
  replace xs := xs.keep hkw7
  replace xp := xp.keep hkw7
  replace hh := hh.keep hkw7
  have hsw7 := hkw7.size
  go_wp2_with fail
  refine (error_same _ _ hh).mono ?_
  rintro e w8 ⟨rfl, hb8⟩
  have hkw8 : Below w7.heap.size w7 w8 := (by repeat (first | exact Below.refl _ _ | refine Below.al ?_ _ | refine Below.drN ?_ _ | refine Below.drew ?_ | refine Below.st ?_ (by first | (dsimp only; omega) | (simp; omega) | simp) _ | refine Below.go ?_ hb8))
  replace B0 := B0.keep hkw8
  replace B0c := B0.cell
  replace B0f := B0.thawed
  replace B0z := B0.lt
  replace B0k := lt_add B0z
  replace B1 := B1.keep hkw8
  replace B1c := B1.cell
  replace B1f := B1.thawed
  replace B1z := B1.lt
  replace B1k := lt_add B1z
  replace Bs := Bs.keep hkw8
  replace Bsc := Bs.cell
  replace Bsf := Bs.thawed
  replace Bsz := Bs.lt
  replace Bsk := lt_add Bsz
  replace Bp := Bp.keep hkw8
  replace Bpc := Bp.cell
  replace Bpf := Bp.thawed
  replace Bpz := Bp.lt
  replace Bpk := lt_add Bpz
  replace x0 := x0.keep hkw8
  replace x1 := x1.keep hkw8
  replace xs := xs.keep hkw8
  replace xp := xp.keep hkw8
  replace hh := hh.keep hkw8
  have hsw8 := hkw8.size
  have lp := xp.lt
  have ls := xs.lt
  have qn9 : w8.heap.size ≠ w.heap.size := by omega
  have qm9 : w.heap.size ≠ w8.heap.size := by omega
  have qn10 : w8.heap.size ≠ w.heap.size+1 := by omega
  have qm10 : w.heap.size+1 ≠ w8.heap.size := by omega
  have qn11 : w8.heap.size ≠ w5.heap.size := by omega
  have qm11 : w5.heap.size ≠ w8.heap.size := by omega
  have qn12 : w8.heap.size ≠ w6.heap.size := by omega
  have qm12 : w6.heap.size ≠ w8.heap.size := by omega
  go_wp2_with fail
  refine (refMatAdd_all ma mb _ _ _ (MatAt.mk (x0.alloc _)) (MatAt.mk (x1.alloc _)) HL.out).mono ?_
  rintro e w9 ⟨v9, rfl, ⟨a9, n9, k9, b9, o9, rfl, hn9, x9⟩, hb9⟩
  have Bw := (Box.new w8 [.int .i64 0, .int .i64 0, .slice none 0 0] 25).keep hb9
  have Bwc := Bw.cell
  have Bwf := Bw.thawed
  have Bwz := Bw.lt
  have Bwk := lt_add Bwz
  have hkw9 : Below w8.heap.size w8 w9 := (by repeat (first | exact Below.refl _ _ | refine Below.al ?_ _ | refine Below.drN ?_ _ | refine Below.drew ?_ | refine Below.st ?_ (by first | (dsimp only; omega) | (simp; omega) | simp) _ | refine Below.go ?_ hb9))
  replace B0 := B0.keep hkw9
  replace B0c := B0.cell
  replace B0f := B0.thawed
  replace B0z := B0.lt
  replace B0k := lt_add B0z
  replace B1 := B1.keep hkw9
  replace B1c := B1.cell
  replace B1f := B1.thawed
  replace B1z := B1.lt
  replace B1k := lt_add B1z
  replace Bs := Bs.keep hkw9
  replace Bsc := Bs.cell
  replace Bsf := Bs.thawed
  replace Bsz := Bs.lt
  replace Bsk := lt_add Bsz
  replace Bp := Bp.keep hkw9
  replace Bpc := Bp.cell
  replace Bpf := Bp.thawed
  replace Bpz := Bp.lt
  replace Bpk := lt_add Bpz
  replace x0 := x0.keep hkw9
  replace x1 := x1.keep hkw9
  replace xs := xs.keep hkw9
  replace xp := xp.keep hkw9
  have hsw9 := hkw9.size
  go_wp2_with fail
  refine (matrices_same (matAdd ma mb) _ _ _ (MatAt.set3 (B := w8.heap.size) xs (fun h => by have := ls h; omega) _ _ _) (MatAt.set3 (B := w8.heap.size) x9 (fun h => by have := hn9 h; simp at this; omega) _ _ _)).mono ?_
  rintro e w10 ⟨rfl, hb10⟩
  have hfr : Far (· = w8.heap.size) w9 w10 := ((((Far.refl (· = w8.heap.size) w9).st (a := ⟨w8.heap.size, 0, none⟩) (fun _ => rfl) _).st (a := ⟨w8.heap.size, 1, none⟩) (fun _ => rfl) _).st (a := ⟨w8.heap.size, 2, none⟩) (fun _ => rfl) _).go hb10
  replace Bw := (((Bw.set 0 (.int .i64 (matAdd ma mb).rows)).set 1 (.int .i64 (matAdd ma mb).cols)).set 2 (.slice a9 n9 k9)).keep hb10
  have Bwc := Bw.cell
  have Bwf := Bw.thawed
  have Bwz := Bw.lt
  replace B0 := B0.farS hfr (by omega)
  have B0c := B0.cell
  have B0f := B0.thawed
  have B0z := B0.lt
  have B0k := lt_add B0z
  replace B1 := B1.farS hfr (by omega)
  have B1c := B1.cell
  have B1f := B1.thawed
  have B1z := B1.lt
  have B1k := lt_add B1z
  replace Bp := Bp.farS hfr (by omega)
  have Bpc := Bp.cell
  have Bpf := Bp.thawed
  have Bpz := Bp.lt
  have Bpk := lt_add Bpz
  replace x0 := x0.farS hfr (by intro h e; have := l0 h; omega)
  replace x1 := x1.farS hfr (by intro h e; have := l1 h; omega)
  replace xp := xp.farS hfr (by intro h e; have := lp h; omega)
  go_wp2_with fail
  refine (refMatMul_all ma mb _ _ _ (MatAt.set3 (B := w8.heap.size) x0 (fun h => by have := l0 h; omega) _ _ _) (MatAt.set3 (B := w8.heap.size) x1 (fun h => by have := l1 h; omega) _ _ _) HM.out).mono ?_
  rintro e w11 ⟨vm, rfl, ⟨am, nm, km, bm, om, rfl, hnm, xm⟩, hb11⟩
  replace Bw := (((Bw.set 0 (.int .i64 0)).set 1 (.int .i64 0)).set 2 (.slice none 0 0)).keep hb11
  have Bwc := Bw.cell
  have Bwf := Bw.thawed
  replace xp := (xp.set3 (B := w8.heap.size) (fun h => by have := lp h; omega) (.int .i64 0) (.int .i64 0) (.slice none 0 0)).keep hb11
  replace Bp := (((Bp.far (a := ⟨w8.heap.size, 0, none⟩) (by dsimp only; omega) (.int .i64 0)).far (a := ⟨w8.heap.size, 1, none⟩) (by dsimp only; omega) (.int .i64 0)).far (a := ⟨w8.heap.size, 2, none⟩) (by dsimp only; omega) (.slice none 0 0)).keep hb11
  have Bpc := Bp.cell
  go_wp2_with fail
  refine (matrices_same (matMul ma mb) _ _ _ (MatAt.set3 (B := w8.heap.size) xp (fun h => by have := lp h; omega) _ _ _) (MatAt.set3 (B := w8.heap.size) xm (fun h => by have := hnm h; simp at this; omega) _ _ _)).mono ?_
  rintro e w12 ⟨rfl, hb12⟩
  go_wp2
  go_ret
  exact ⟨rfl, (by repeat (first | exact Below.refl _ _ | refine Below.al ?_ _ | refine Below.drN ?_ _ | refine Below.drew ?_ | refine Below.st ?_ (by first | (dsimp only; omega) | (simp; omega) | simp) _ | refine Below.go ?_ hb12 | refine Below.go ?_ hb11 | refine Below.go ?_ hb10 | refine Below.go ?_ hb9 | refine Below.go ?_ hb8 | refine Below.go ?_ hb7 | refine Below.go ?_ hb6 | refine Below.go ?_ hb5 | refine Below.go ?_ hb4 | refine Below.go ?_ hb3 | refine Below.go ?_ hb2 | refine Below.go ?_ hb1))⟩
set_option maxRecDepth 100000 in
set_option maxHeartbeats 2000000 in
theorem walk3b (fa : ma.fault = 0) (fb : mb.fault = 0) (q1 : (ma.rows != mb.rows) = false) (q2 : (ma.cols != mb.cols) = false) (q3 : (ma.cols != mb.rows) = true) (HL : Hid (lossFault ma mb = 0)) (HM : Hid (mulFault ma mb = 2)) : Calls Tryd.prog 4 #[.agg #[.int .i64 ma.rows, .int .i64 ma.cols, .slice a0 n0 k0], .agg #[.int .i64 mb.rows, .int .i64 mb.cols, .slice a1 n1 k1]] w fun e w' => e = .returned (.bool true) ∧ Below w.heap.size w w' := by
  have F0 := Lib.hid (show matFault ma.rows ma.cols ma.cells = 0 from fa)
  have F0' := Lib.hid fa
  have F1 := Lib.hid fb
  clear fa fb
  have l0 := x0.lt
  have l1 := x1.lt
  go_enter Tryd.func4, Tryd.ntmps4
  go_wp2_with fail
  refine (refMatFault_any ma _ _ (MatAt.mk (x0.alloc _ |>.alloc _))).mono ?_
  rw [F0'.out]
  rintro e w1 ⟨rfl, hb1⟩
  have B0 := ((Box.new w _ 25).alloc _).keep hb1
  have B0c := B0.cell
  have B0f := B0.thawed
  have B0z := B0.lt
  have B0k := lt_add B0z
  have B1 := (Box.new' _ (w.heap.size + 1) _ 25 (by simp)).keep hb1
  have B1c := B1.cell
  have B1f := B1.thawed
  have B1z := B1.lt
  have B1k := lt_add B1z
  have hkw1 : Below w.heap.size w w1 := (by repeat (first | exact Below.refl _ _ | refine Below.al ?_ _ | refine Below.drN ?_ _ | refine Below.drew ?_ | refine Below.st ?_ (by first | (dsimp only; omega) | (simp; omega) | simp) _ | refine Below.go ?_ hb1))
  replace x0 := x0.keep hkw1
  replace x1 := x1.keep hkw1
  replace hh := hh.keep hkw1
  have hsw1 := hkw1.size
  go_wp2_with fail
  refine (matCheck_any _ _ _ _ _ _ _ ma.cells _ x0).mono ?_
  rw [F0.out]
  rintro e w2 ⟨rfl, hb2⟩
  have hkw2 : Below w1.heap.size w1 w2 := (by repeat (first | exact Below.refl _ _ | refine Below.al ?_ _ | refine Below.drN ?_ _ | refine Below.drew ?_ | refine Below.st ?_ (by first | (dsimp only; omega) | (simp; omega) | simp) _ | refine Below.go ?_ hb2))
  replace B0 := B0.keep hkw2
  replace B0c := B0.cell
  replace B0f := B0.thawed
  replace B0z := B0.lt
  replace B0k := lt_add B0z
  replace B1 := B1.keep hkw2
  replace B1c := B1.cell
  replace B1f := B1.thawed
  replace B1z := B1.lt
  replace B1k := lt_add B1z
  replace x0 := x0.keep hkw2
  replace x1 := x1.keep hkw2
  replace hh := hh.keep hkw2
  have hsw2 := hkw2.size
  go_wp2_with fail
  refine (error_same _ _ hh).mono ?_
  rintro e w3 ⟨rfl, hb3⟩
  have hkw3 : Below w2.heap.size w2 w3 := (by repeat (first | exact Below.refl _ _ | refine Below.al ?_ _ | refine Below.drN ?_ _ | refine Below.drew ?_ | refine Below.st ?_ (by first | (dsimp only; omega) | (simp; omega) | simp) _ | refine Below.go ?_ hb3))
  replace B0 := B0.keep hkw3
  replace B0c := B0.cell
  replace B0f := B0.thawed
  replace B0z := B0.lt
  replace B0k := lt_add B0z
  replace B1 := B1.keep hkw3
  replace B1c := B1.cell
  replace B1f := B1.thawed
  replace B1z := B1.lt
  replace B1k := lt_add B1z
  replace x0 := x0.keep hkw3
  replace x1 := x1.keep hkw3
  replace hh := hh.keep hkw3
  have hsw3 := hkw3.size
  go_wp2_with fail
  refine (refMatFault_any mb _ _ (MatAt.mk x1)).mono ?_
  rw [F1.out]
  rintro e w4 ⟨rfl, hb4⟩
  have hkw4 : Below w3.heap.size w3 w4 := (by repeat (first | exact Below.refl _ _ | refine Below.al ?_ _ | refine Below.drN ?_ _ | refine Below.drew ?_ | refine Below.st ?_ (by first | (dsimp only; omega) | (simp; omega) | simp) _ | refine Below.go ?_ hb4))
  replace B0 := B0.keep hkw4
  replace B0c := B0.cell
  replace B0f := B0.thawed
  replace B0z := B0.lt
  replace B0k := lt_add B0z
  replace B1 := B1.keep hkw4
  replace B1c := B1.cell
  replace B1f := B1.thawed
  replace B1z := B1.lt
  replace B1k := lt_add B1z
  replace x0 := x0.keep hkw4
  replace x1 := x1.keep hkw4
  replace hh := hh.keep hkw4
  have hsw4 := hkw4.size
  go_wp2_with fail
  refine (matAdd_any ma mb _ _ _ (MatAt.mk x0) (MatAt.mk x1)).mono ?_
  rw [HL.out, orNone_ok rfl]
  rintro e w5 ⟨v5, rfl, ⟨asx, ns, ks, bs, osx, rfl, hns, xs⟩, hb5⟩
  have hkw5 : Below w4.heap.size w4 w5 := (by repeat (first | exact Below.refl _ _ | refine Below.al ?_ _ | refine Below.drN ?_ _ | refine Below.drew ?_ | refine Below.st ?_ (by first | (dsimp only; omega) | (simp; omega) | simp) _ | refine Below.go ?_ hb5))
  replace B0 := B0.keep hkw5
  replace B0c := B0.cell
  replace B0f := B0.thawed
  replace B0z := B0.lt
  replace B0k := lt_add B0z
  replace B1 := B1.keep hkw5
  replace B1c := B1.cell
  replace B1f := B1.thawed
  replace B1z := B1.lt
  replace B1k := lt_add B1z
  replace x0 := x0.keep hkw5
  replace x1 := x1.keep hkw5
  replace hh := hh.keep hkw5
  have hsw5 := hkw5.size
  go_wp2_with fail
  refine (matMul_all ma mb _ _ _ (MatAt.mk (x0.alloc _)) (MatAt.mk (x1.alloc _))).mono ?_
  rw [HM.out, orNone_bad (by decide)]
  rintro e w6 ⟨v6, rfl, ⟨ap, np, kp, bp, op, rfl, xp⟩, hb6⟩
  have Bs := (Box.new w5 _ 25).keep hb6
  have Bsc := Bs.cell
  have Bsf := Bs.thawed
  have Bsz := Bs.lt
  have Bsk := lt_add Bsz
  have hkw6 : Below w5.heap.size w5 w6 := (by repeat (first | exact Below.refl _ _ | refine Below.al ?_ _ | refine Below.drN ?_ _ | refine Below.drew ?_ | refine Below.st ?_ (by first | (dsimp only; omega) | (simp; omega) | simp) _ | refine Below.go ?_ hb6))
  replace B0 := B0.keep hkw6
  replace B0c := B0.cell
  replace B0f := B0.thawed
  replace B0z := B0.lt
  replace B0k := lt_add B0z
  replace B1 := B1.keep hkw6
  replace B1c := B1.cell
  replace B1f := B1.thawed
  replace B1z := B1.lt
  replace B1k := lt_add B1z
  replace x0 := x0.keep hkw6
  replace x1 := x1.keep hkw6
  replace xs := xs.keep hkw6
  replace hh := hh.keep hkw6
  have hsw6 := hkw6.size
  go_wp2_with fail
  refine (error_same _ _ (hh.alloc _)).mono ?_
  rintro e w7 ⟨rfl, hb7⟩
  have Bp := (Box.new w6 _ 25).keep hb7
  have Bpc := Bp.cell
  have Bpf := Bp.thawed
  have Bpz := Bp.lt
  have Bpk := lt_add Bpz
  have hkw7 : Below w6.heap.size w6 w7 := (by repeat (first | exact Below.refl _ _ | refine Below.al ?_ _ | refine Below.drN ?_ _ | refine Below.drew ?_ | refine Below.st ?_ (by first | (dsimp only; omega) | (simp; omega) | simp) _ | refine Below.go ?_ hb7))
  replace B0 := B0.keep hkw7
  replace B0c := B0.cell
  replace B0f := B0.thawed
  replace B0z := B0.lt
  replace B0k := lt_add B0z
  replace B1 := B1.keep hkw7
  replace B1c := B1.cell
  replace B1f := B1.thawed
  replace B1z := B1.lt
  replace B1k := lt_add B1z
  replace Bs := Bs.keep hkw7
  replace Bsc := Bs.cell
  replace Bsf := Bs.thawed
  replace Bsz := Bs.lt
  replace Bsk := lt_add Bsz
  replace x0 := x0.keep hkw7
  replace x1 := x1.keep hkw7
  replace xs := xs.keep hkw7
  replace xp := xp.keep hkw7
  replace hh := hh.keep hkw7
  have hsw7 := hkw7.size
  go_wp2_with fail
  refine (error_same _ _ hh).mono ?_
  rintro e w8 ⟨rfl, hb8⟩
  have hkw8 : Below w7.heap.size w7 w8 := (by repeat (first | exact Below.refl _ _ | refine Below.al ?_ _ | refine Below.drN ?_ _ | refine Below.drew ?_ | refine Below.st ?_ (by first | (dsimp only; omega) | (simp; omega) | simp) _ | refine Below.go ?_ hb8))
  replace B0 := B0.keep hkw8
  replace B0c := B0.cell
  replace B0f := B0.thawed
  replace B0z := B0.lt
  replace B0k := lt_add B0z
  replace B1 := B1.keep hkw8
  replace B1c := B1.cell
  replace B1f := B1.thawed
  replace B1z := B1.lt
  replace B1k := lt_add B1z
  replace Bs := Bs.keep hkw8
  replace Bsc := Bs.cell
  replace Bsf := Bs.thawed
  replace Bsz := Bs.lt
  replace Bsk := lt_add Bsz
  replace Bp := Bp.keep hkw8
  replace Bpc := Bp.cell
  replace Bpf := Bp.thawed
  replace Bpz := Bp.lt
  replace Bpk := lt_add Bpz
  replace x0 := x0.keep hkw8
  replace x1 := x1.keep hkw8
  replace xs := xs.keep hkw8
  replace xp := xp.keep hkw8
  replace hh := hh.keep hkw8
  have hsw8 := hkw8.size
  have lp := xp.lt
  have ls := xs.lt
  have qn13 : w8.heap.size ≠ w.heap.size := by omega
  have qm13 : w.heap.size ≠ w8.heap.size := by omega
  have qn14 : w8.heap.size ≠ w.heap.size+1 := by omega
  have qm14 : w.heap.size+1 ≠ w8.heap.size := by omega
  have qn15 : w8.heap.size ≠ w5.heap.size := by omega
  have qm15 : w5.heap.size ≠ w8.heap.size := by omega
  have qn16 : w8.heap.size ≠ w6.heap.size := by omega
  have qm16 : w6.heap.size ≠ w8.heap.size := by omega
  go_wp2_with fail
  refine (refMatAdd_all ma mb _ _ _ (MatAt.mk (x0.alloc _)) (MatAt.mk (x1.alloc _)) HL.out).mono ?_
  rintro e w9 ⟨v9, rfl, ⟨a9, n9, k9, b9, o9, rfl, hn9, x9⟩, hb9⟩
  have Bw := (Box.new w8 [.int .i64 0, .int .i64 0, .slice none 0 0] 25).keep hb9
  have Bwc := Bw.cell
  have Bwf := Bw.thawed
  have Bwz := Bw.lt
  have Bwk := lt_add Bwz
  have hkw9 : Below w8.heap.size w8 w9 := (by repeat (first | exact Below.refl _ _ | refine Below.al ?_ _ | refine Below.drN ?_ _ | refine Below.drew ?_ | refine Below.st ?_ (by first | (dsimp only; omega) | (simp; omega) | simp) _ | refine Below.go ?_ hb9))
  replace B0 := B0.keep hkw9
  replace B0c := B0.cell
  replace B0f := B0.thawed
  replace B0z := B0.lt
  replace B0k := lt_add B0z
  replace B1 := B1.keep hkw9
  replace B1c := B1.cell
  replace B1f := B1.thawed
  replace B1z := B1.lt
  replace B1k := lt_add B1z
  replace Bs := Bs.keep hkw9
  replace Bsc := Bs.cell
  replace Bsf := Bs.thawed
  replace Bsz := Bs.lt
  replace Bsk := lt_add Bsz
  replace Bp := Bp.keep hkw9
  replace Bpc := Bp.cell
  replace Bpf := Bp.thawed
  replace Bpz := Bp.lt
  replace Bpk := lt_add Bpz
  replace x0 := x0.keep hkw9
  replace x1 := x1.keep hkw9
  replace xs := xs.keep hkw9
  replace xp := xp.keep hkw9
  have hsw9 := hkw9.size
  go_wp2_with fail
  refine (matrices_same (matAdd ma mb) _ _ _ (MatAt.set3 (B := w8.heap.size) xs (fun h => by have := ls h; omega) _ _ _) (MatAt.set3 (B := w8.heap.size) x9 (fun h => by have := hn9 h; simp at this; omega) _ _ _)).mono ?_
  rintro e w10 ⟨rfl, hb10⟩
  have hfr : Far (· = w8.heap.size) w9 w10 := ((((Far.refl (· = w8.heap.size) w9).st (a := ⟨w8.heap.size, 0, none⟩) (fun _ => rfl) _).st (a := ⟨w8.heap.size, 1, none⟩) (fun _ => rfl) _).st (a := ⟨w8.heap.size, 2, none⟩) (fun _ => rfl) _).go hb10
  replace Bw := (((Bw.set 0 (.int .i64 (matAdd ma mb).rows)).set 1 (.int .i64 (matAdd ma mb).cols)).set 2 (.slice a9 n9 k9)).keep hb10
  have Bwc := Bw.cell
  have Bwf := Bw.thawed
  have Bwz := Bw.lt
  replace B0 := B0.farS hfr (by omega)
  have B0c := B0.cell
  have B0f := B0.thawed
  have B0z := B0.lt
  have B0k := lt_add B0z
  replace B1 := B1.farS hfr (by omega)
  have B1c := B1.cell
  have B1f := B1.thawed
  have B1z := B1.lt
  have B1k := lt_add B1z
  replace Bp := Bp.farS hfr (by omega)
  have Bpc := Bp.cell
  have Bpf := Bp.thawed
  have Bpz := Bp.lt
  have Bpk := lt_add Bpz
  replace x0 := x0.farS hfr (by intro h e; have := l0 h; omega)
  replace x1 := x1.farS hfr (by intro h e; have := l1 h; omega)
  replace xp := xp.farS hfr (by intro h e; have := lp h; omega)
  go_wp2_with fail
  refine (matrices_same Mat.none _ _ _ (MatAt.set3 (B := w8.heap.size) xp (fun h => by have := lp h; omega) _ _ _) (none_at _)).mono ?_
  rintro e w11 ⟨rfl, hb11⟩
  go_wp2
  go_ret
  exact ⟨rfl, (by repeat (first | exact Below.refl _ _ | refine Below.al ?_ _ | refine Below.drN ?_ _ | refine Below.drew ?_ | refine Below.st ?_ (by first | (dsimp only; omega) | (simp; omega) | simp) _ | refine Below.go ?_ hb11 | refine Below.go ?_ hb10 | refine Below.go ?_ hb9 | refine Below.go ?_ hb8 | refine Below.go ?_ hb7 | refine Below.go ?_ hb6 | refine Below.go ?_ hb5 | refine Below.go ?_ hb4 | refine Below.go ?_ hb3 | refine Below.go ?_ hb2 | refine Below.go ?_ hb1))⟩
set_option maxRecDepth 100000 in
set_option maxHeartbeats 2000000 in
theorem walk3c (fa : ma.fault = 0) (fb : mb.fault = 0) (q1 : (ma.rows != mb.rows) = true) (q3 : (ma.cols != mb.rows) = false) (HL : Hid (lossFault ma mb = 2)) (HM : Hid (mulFault ma mb = 0)) : Calls Tryd.prog 4 #[.agg #[.int .i64 ma.rows, .int .i64 ma.cols, .slice a0 n0 k0], .agg #[.int .i64 mb.rows, .int .i64 mb.cols, .slice a1 n1 k1]] w fun e w' => e = .returned (.bool true) ∧ Below w.heap.size w w' := by
  have F0 := Lib.hid (show matFault ma.rows ma.cols ma.cells = 0 from fa)
  have F0' := Lib.hid fa
  have F1 := Lib.hid fb
  clear fa fb
  have l0 := x0.lt
  have l1 := x1.lt
  go_enter Tryd.func4, Tryd.ntmps4
  go_wp2_with fail
  refine (refMatFault_any ma _ _ (MatAt.mk (x0.alloc _ |>.alloc _))).mono ?_
  rw [F0'.out]
  rintro e w1 ⟨rfl, hb1⟩
  have B0 := ((Box.new w _ 25).alloc _).keep hb1
  have B0c := B0.cell
  have B0f := B0.thawed
  have B0z := B0.lt
  have B0k := lt_add B0z
  have B1 := (Box.new' _ (w.heap.size + 1) _ 25 (by simp)).keep hb1
  have B1c := B1.cell
  have B1f := B1.thawed
  have B1z := B1.lt
  have B1k := lt_add B1z
  have hkw1 : Below w.heap.size w w1 := (by repeat (first | exact Below.refl _ _ | refine Below.al ?_ _ | refine Below.drN ?_ _ | refine Below.drew ?_ | refine Below.st ?_ (by first | (dsimp only; omega) | (simp; omega) | simp) _ | refine Below.go ?_ hb1))
  replace x0 := x0.keep hkw1
  replace x1 := x1.keep hkw1
  replace hh := hh.keep hkw1
  have hsw1 := hkw1.size
  go_wp2_with fail
  refine (matCheck_any _ _ _ _ _ _ _ ma.cells _ x0).mono ?_
  rw [F0.out]
  rintro e w2 ⟨rfl, hb2⟩
  have hkw2 : Below w1.heap.size w1 w2 := (by repeat (first | exact Below.refl _ _ | refine Below.al ?_ _ | refine Below.drN ?_ _ | refine Below.drew ?_ | refine Below.st ?_ (by first | (dsimp only; omega) | (simp; omega) | simp) _ | refine Below.go ?_ hb2))
  replace B0 := B0.keep hkw2
  replace B0c := B0.cell
  replace B0f := B0.thawed
  replace B0z := B0.lt
  replace B0k := lt_add B0z
  replace B1 := B1.keep hkw2
  replace B1c := B1.cell
  replace B1f := B1.thawed
  replace B1z := B1.lt
  replace B1k := lt_add B1z
  replace x0 := x0.keep hkw2
  replace x1 := x1.keep hkw2
  replace hh := hh.keep hkw2
  have hsw2 := hkw2.size
  go_wp2_with fail
  refine (error_same _ _ hh).mono ?_
  rintro e w3 ⟨rfl, hb3⟩
  have hkw3 : Below w2.heap.size w2 w3 := (by repeat (first | exact Below.refl _ _ | refine Below.al ?_ _ | refine Below.drN ?_ _ | refine Below.drew ?_ | refine Below.st ?_ (by first | (dsimp only; omega) | (simp; omega) | simp) _ | refine Below.go ?_ hb3))
  replace B0 := B0.keep hkw3
  replace B0c := B0.cell
  replace B0f := B0.thawed
  replace B0z := B0.lt
  replace B0k := lt_add B0z
  replace B1 := B1.keep hkw3
  replace B1c := B1.cell
  replace B1f := B1.thawed
  replace B1z := B1.lt
  replace B1k := lt_add B1z
  replace x0 := x0.keep hkw3
  replace x1 := x1.keep hkw3
  replace hh := hh.keep hkw3
  have hsw3 := hkw3.size
  go_wp2_with fail
  refine (refMatFault_any mb _ _ (MatAt.mk x1)).mono ?_
  rw [F1.out]
  rintro e w4 ⟨rfl, hb4⟩
  have hkw4 : Below w3.heap.size w3 w4 := (by repeat (first | exact Below.refl _ _ | refine Below.al ?_ _ | refine Below.drN ?_ _ | refine Below.drew ?_ | refine Below.st ?_ (by first | (dsimp only; omega) | (simp; omega) | simp) _ | refine Below.go ?_ hb4))
  replace B0 := B0.keep hkw4
  replace B0c := B0.cell
  replace B0f := B0.thawed
  replace B0z := B0.lt
  replace B0k := lt_add B0z
  replace B1 := B1.keep hkw4
  replace B1c := B1.cell
  replace B1f := B1.thawed
  replace B1z := B1.lt
  replace B1k := lt_add B1z
  replace x0 := x0.keep hkw4
  replace x1 := x1.keep hkw4
  replace hh := hh.keep hkw4
  have hsw4 := hkw4.size
  go_wp2_with fail
  refine (matAdd_any ma mb _ _ _ (MatAt.mk x0) (MatAt.mk x1)).mono ?_
  rw [HL.out, orNone_bad (by decide)]
  rintro e w5 ⟨v5, rfl, ⟨asx, ns, ks, bs, osx, rfl, hns, xs⟩, hb5⟩
  have hkw5 : Below w4.heap.size w4 w5 := (by repeat (first | exact Below.refl _ _ | refine Below.al ?_ _ | refine Below.drN ?_ _ | refine Below.drew ?_ | refine Below.st ?_ (by first | (dsimp only; omega) | (simp; omega) | simp) _ | refine Below.go ?_ hb5))
  replace B0 := B0.keep hkw5
  replace B0c := B0.cell
  replace B0f := B0.thawed
  replace B0z := B0.lt
  replace B0k := lt_add B0z
  replace B1 := B1.keep hkw5
  replace B1c := B1.cell
  replace B1f := B1.thawed
  replace B1z := B1.lt
  replace B1k := lt_add B1z
  replace x0 := x0.keep hkw5
  replace x1 := x1.keep hkw5
  replace hh := hh.keep hkw5
  have hsw5 := hkw5.size
  go_wp2_with fail
  refine (matMul_all ma mb _ _ _ (MatAt.mk (x0.alloc _)) (MatAt.mk (x1.alloc _))).mono ?_
  rw [HM.out, orNone_ok rfl]
  rintro e w6 ⟨v6, rfl, ⟨ap, np, kp, bp, op, rfl, xp⟩, hb6⟩
  have Bs := (Box.new w5 _ 25).keep hb6
  have Bsc := Bs.cell
  have Bsf := Bs.thawed
  have Bsz := Bs.lt
  have Bsk := lt_add Bsz
  have hkw6 : Below w5.heap.size w5 w6 := (by repeat (first | exact Below.refl _ _ | refine Below.al ?_ _ | refine Below.drN ?_ _ | refine Below.drew ?_ | refine Below.st ?_ (by first | (dsimp only; omega) | (simp; omega) | simp) _ | refine Below.go ?_ hb6))
  replace B0 := B0.keep hkw6
  replace B0c := B0.cell
  replace B0f := B0.thawed
  replace B0z := B0.lt
  replace B0k := lt_add B0z
  replace B1 := B1.keep hkw6
  replace B1c := B1.cell
  replace B1f := B1.thawed
  replace B1z := B1.lt
  replace B1k := lt_add B1z
  replace x0 := x0.keep hkw6
  replace x1 := x1.keep hkw6
  replace xs := xs.keep hkw6
  replace hh := hh.keep hkw6
  have hsw6 := hkw6.size
  go_wp2_with fail
  refine (error_same _ _ (hh.alloc _)).mono ?_
  rintro e w7 ⟨rfl, hb7⟩
  have Bp := (Box.new w6 _ 25).keep hb7
  have Bpc := Bp.cell
  have Bpf := Bp.thawed
  have Bpz := Bp.lt
  have Bpk := lt_add Bpz
  have hkw7 : Below w6.heap.size w6 w7 := (by repeat (first | exact Below.refl _ _ | refine Below.al ?_ _ | refine Below.drN ?_ _ | refine Below.drew ?_ | refine Below.st ?_ (by first | (dsimp only; omega) | (simp; omega) | simp) _ | refine Below.go ?_ hb7))
  replace B0 := B0.keep hkw7
  replace B0c := B0.cell
  replace B0f := B0.thawed
  replace B0z := B0.lt
  replace B0k := lt_add B0z
  replace B1 := B1.keep hkw7
  replace B1c := B1.cell
  replace B1f := B1.thawed
  replace B1z := B1.lt
  replace B1k := lt_add B1z
  replace Bs := Bs.keep hkw7
  replace Bsc := Bs.cell
  replace Bsf := Bs.thawed
  replace Bsz := Bs.lt
  replace Bsk := lt_add Bsz
  replace x0 := x0.keep hkw7
  replace x1 := x1.keep hkw7
  replace xs := xs.keep hkw7
  replace xp := xp.keep hkw7
  replace hh := hh.keep hkw7
  have hsw7 := hkw7.size
  go_wp2_with fail
  refine (error_same _ _ hh).mono ?_
  rintro e w8 ⟨rfl, hb8⟩
  have hkw8 : Below w7.heap.size w7 w8 := (by repeat (first | exact Below.refl _ _ | refine Below.al ?_ _ | refine Below.drN ?_ _ | refine Below.drew ?_ | refine Below.st ?_ (by first | (dsimp only; omega) | (simp; omega) | simp) _ | refine Below.go ?_ hb8))
  replace B0 := B0.keep hkw8
  replace B0c := B0.cell
  replace B0f := B0.thawed
  replace B0z := B0.lt
  replace B0k := lt_add B0z
  replace B1 := B1.keep hkw8
  replace B1c := B1.cell
  replace B1f := B1.thawed
  replace B1z := B1.lt
  replace B1k := lt_add B1z
  replace Bs := Bs.keep hkw8
  replace Bsc := Bs.cell
  replace Bsf := Bs.thawed
  replace Bsz := Bs.lt
  replace Bsk := lt_add Bsz
  replace Bp := Bp.keep hkw8
  replace Bpc := Bp.cell
  replace Bpf := Bp.thawed
  replace Bpz := Bp.lt
  replace Bpk := lt_add Bpz
  replace x0 := x0.keep hkw8
  replace x1 := x1.keep hkw8
  replace xs := xs.keep hkw8
  replace xp := xp.keep hkw8
  replace hh := hh.keep hkw8
  have hsw8 := hkw8.size
  have lp := xp.lt
  have ls := xs.lt
  have qn17 : w8.heap.size ≠ w.heap.size := by omega
  have qm17 : w.heap.size ≠ w8.heap.size := by omega
  have qn18 : w8.heap.size ≠ w.heap.size+1 := by omega
  have qm18 : w.heap.size+1 ≠ w8.heap.size := by omega
  have qn19 : w8.heap.size ≠ w5.heap.size := by omega
  have qm19 : w5.heap.size ≠ w8.heap.size := by omega
  have qn20 : w8.heap.size ≠ w6.heap.size := by omega
  have qm20 : w6.heap.size ≠ w8.heap.size := by omega
  go_wp2_with fail
  refine (matrices_same Mat.none _ _ _ (MatAt.mk (xs.alloc _)) (none_at _)).mono ?_
  rintro e w9 ⟨rfl, hb9⟩
  have Bw := (Box.new w8 [.int .i64 0, .int .i64 0, .slice none 0 0] 25).keep hb9
  have Bwc := Bw.cell
  have Bwf := Bw.thawed
  have Bwz := Bw.lt
  have Bwk := lt_add Bwz
  have hkw9 : Below w8.heap.size w8 w9 := (by repeat (first | exact Below.refl _ _ | refine Below.al ?_ _ | refine Below.drN ?_ _ | refine Below.drew ?_ | refine Below.st ?_ (by first | (dsimp only; omega) | (simp; omega) | simp) _ | refine Below.go ?_ hb9))
  replace B0 := B0.keep hkw9
  replace B0c := B0.cell
  replace B0f := B0.thawed
  replace B0z := B0.lt
  replace B0k := lt_add B0z
  replace B1 := B1.keep hkw9
  replace B1c := B1.cell
  replace B1f := B1.thawed
  replace B1z := B1.lt
  replace B1k := lt_add B1z
  replace Bp := Bp.keep hkw9
  replace Bpc := Bp.cell
  replace Bpf := Bp.thawed
  replace Bpz := Bp.lt
  replace Bpk := lt_add Bpz
  replace x0 := x0.keep hkw9
  replace x1 := x1.keep hkw9
  replace xp := xp.keep hkw9
  have hsw9 := hkw9.size
  go_wp2_with fail
  refine (refMatMul_all ma mb _ _ _ (MatAt.set3 (B := w8.heap.size) x0 (fun h => by have := l0 h; omega) _ _ _) (MatAt.set3 (B := w8.heap.size) x1 (fun h => by have := l1 h; omega) _ _ _) HM.out).mono ?_
  rintro e w10 ⟨vm, rfl, ⟨am, nm, km, bm, om, rfl, hnm, xm⟩, hb10⟩
  replace Bw := (((Bw.set 0 (.int .i64 0)).set 1 (.int .i64 0)).set 2 (.slice none 0 0)).keep hb10
  have Bwc := Bw.cell
  have Bwf := Bw.thawed
  replace xp := (xp.set3 (B := w8.heap.size) (fun h => by have := lp h; omega) (.int .i64 0) (.int .i64 0) (.slice none 0 0)).keep hb10
  replace Bp := (((Bp.far (a := ⟨w8.heap.size, 0, none⟩) (by dsimp only; omega) (.int .i64 0)).far (a := ⟨w8.heap.size, 1, none⟩) (by dsimp only; omega) (.int .i64 0)).far (a := ⟨w8.heap.size, 2, none⟩) (by dsimp only; omega) (.slice none 0 0)).keep hb10
  have Bpc := Bp.cell
  go_wp2_with fail
  refine (matrices_same (matMul ma mb) _ _ _ (MatAt.set3 (B := w8.heap.size) xp (fun h => by have := lp h; omega) _ _ _) (MatAt.set3 (B := w8.heap.size) xm (fun h => by have := hnm h; simp at this; omega) _ _ _)).mono ?_
  rintro e w11 ⟨rfl, hb11⟩
  go_wp2
  go_ret
  exact ⟨rfl, (by repeat (first | exact Below.refl _ _ | refine Below.al ?_ _ | refine Below.drN ?_ _ | refine Below.drew ?_ | refine Below.st ?_ (by first | (dsimp only; omega) | (simp; omega) | simp) _ | refine Below.go ?_ hb11 | refine Below.go ?_ hb10 | refine Below.go ?_ hb9 | refine Below.go ?_ hb8 | refine Below.go ?_ hb7 | refine Below.go ?_ hb6 | refine Below.go ?_ hb5 | refine Below.go ?_ hb4 | refine Below.go ?_ hb3 | refine Below.go ?_ hb2 | refine Below.go ?_ hb1))⟩
set_option maxRecDepth 100000 in
set_option maxHeartbeats 2000000 in
theorem walk3d (fa : ma.fault = 0) (fb : mb.fault = 0) (q1 : (ma.rows != mb.rows) = false) (q2 : (ma.cols != mb.cols) = true) (q3 : (ma.cols != mb.rows) = false) (HL : Hid (lossFault ma mb = 2)) (HM : Hid (mulFault ma mb = 0)) : Calls Tryd.prog 4 #[.agg #[.int .i64 ma.rows, .int .i64 ma.cols, .slice a0 n0 k0], .agg #[.int .i64 mb.rows, .int .i64 mb.cols, .slice a1 n1 k1]] w fun e w' => e = .returned (.bool true) ∧ Below w.heap.size w w' := by
  have F0 := Lib.hid (show matFault ma.rows ma.cols ma.cells = 0 from fa)
  have F0' := Lib.hid fa
  have F1 := Lib.hid fb
  clear fa fb
  have l0 := x0.lt
  have l1 := x1.lt
  go_enter Tryd.func4, Tryd.ntmps4
  go_wp2_with fail
  refine (refMatFault_any ma _ _ (MatAt.mk (x0.alloc _ |>.alloc _))).mono ?_
  rw [F0'.out]
  rintro e w1 ⟨rfl, hb1⟩
  have B0 := ((Box.new w _ 25).alloc _).keep hb1
  have B0c := B0.cell
  have B0f := B0.thawed
  have B0z := B0.lt
  have B0k := lt_add B0z
  have B1 := (Box.new' _ (w.heap.size + 1) _ 25 (by simp)).keep hb1
  have B1c := B1.cell
  have B1f := B1.thawed
  have B1z := B1.lt
  have B1k := lt_add B1z
  have hkw1 : Below w.heap.size w w1 := (by repeat (first | exact Below.refl _ _ | refine Below.al ?_ _ | refine Below.drN ?_ _ | refine Below.drew ?_ | refine Below.st ?_ (by first | (dsimp only; omega) | (simp; omega) | simp) _ | refine Below.go ?_ hb1))
  replace x0 := x0.keep hkw1
  replace x1 := x1.keep hkw1
  replace hh := hh.keep hkw1
  have hsw1 := hkw1.size
  go_wp2_with fail
  refine (matCheck_any _ _ _ _ _ _ _ ma.cells _ x0).mono ?_
  rw [F0.out]
  rintro e w2 ⟨rfl, hb2⟩
  have hkw2 : Below w1.heap.size w1 w2 := (by repeat (first | exact Below.refl _ _ | refine Below.al ?_ _ | refine Below.drN ?_ _ | refine Below.drew ?_ | refine Below.st ?_ (by first | (dsimp only; omega) | (simp; omega) | simp) _ | refine Below.go ?_ hb2))
  replace B0 := B0.keep hkw2
  replace B0c := B0.cell
  replace B0f := B0.thawed
  replace B0z := B0.lt
  replace B0k := lt_add B0z
  replace B1 := B1.keep hkw2
  replace B1c := B1.cell
  replace B1f := B1.thawed
  replace B1z := B1.lt
  replace B1k := lt_add B1z
  replace x0 := x0.keep hkw2
  replace x1 := x1.keep hkw2
  replace hh := hh.keep hkw2
  have hsw2 := hkw2.size
  go_wp2_with fail
  refine (error_same _ _ hh).mono ?_
  rintro e w3 ⟨rfl, hb3⟩
  have hkw3 : Below w2.heap.size w2 w3 := (by repeat (first | exact Below.refl _ _ | refine Below.al ?_ _ | refine Below.drN ?_ _ | refine Below.drew ?_ | refine Below.st ?_ (by first | (dsimp only; omega) | (simp; omega) | simp) _ | refine Below.go ?_ hb3))
  replace B0 := B0.keep hkw3
  replace B0c := B0.cell
  replace B0f := B0.thawed
  replace B0z := B0.lt
  replace B0k := lt_add B0z
  replace B1 := B1.keep hkw3
  replace B1c := B1.cell
  replace B1f := B1.thawed
  replace B1z := B1.lt
  replace B1k := lt_add B1z
  replace x0 := x0.keep hkw3
  replace x1 := x1.keep hkw3
  replace hh := hh.keep hkw3
  have hsw3 := hkw3.size
  go_wp2_with fail
  refine (refMatFault_any mb _ _ (MatAt.mk x1)).mono ?_
  rw [F1.out]
  rintro e w4 ⟨rfl, hb4⟩
  have hkw4 : Below w3.heap.size w3 w4 := (by repeat (first | exact Below.refl _ _ | refine Below.al ?_ _ | refine Below.drN ?_ _ | refine Below.drew ?_ | refine Below.st ?_ (by first | (dsimp only; omega) | (simp; omega) | simp) _ | refine Below.go ?_ hb4))
  replace B0 := B0.keep hkw4
  replace B0c := B0.cell
  replace B0f := B0.thawed
  replace B0z := B0.lt
  replace B0k := lt_add B0z
  replace B1 := B1.keep hkw4
  replace B1c := B1.cell
  replace B1f := B1.thawed
  replace B1z := B1.lt
  replace B1k := lt_add B1z
  replace x0 := x0.keep hkw4
  replace x1 := x1.keep hkw4
  replace hh := hh.keep hkw4
  have hsw4 := hkw4.size
  go_wp2_with fail
  refine (matAdd_any ma mb _ _ _ (MatAt.mk x0) (MatAt.mk x1)).mono ?_
  rw [HL.out, orNone_bad (by decide)]
  rintro e w5 ⟨v5, rfl, ⟨asx, ns, ks, bs, osx, rfl, hns, xs⟩, hb5⟩
  have hkw5 : Below w4.heap.size w4 w5 := (by repeat (first | exact Below.refl _ _ | refine Below.al ?_ _ | refine Below.drN ?_ _ | refine Below.drew ?_ | refine Below.st ?_ (by first | (dsimp only; omega) | (simp; omega) | simp) _ | refine Below.go ?_ hb5))
  replace B0 := B0.keep hkw5
  replace B0c := B0.cell
  replace B0f := B0.thawed
  replace B0z := B0.lt
  replace B0k := lt_add B0z
  replace B1 := B1.keep hkw5
  replace B1c := B1.cell
  replace B1f := B1.thawed
  replace B1z := B1.lt
  replace B1k := lt_add B1z
  replace x0 := x0.keep hkw5
  replace x1 := x1.keep hkw5
  replace hh := hh.keep hkw5
  have hsw5 := hkw5.size
  go_wp2_with fail
  refine (matMul_all ma mb _ _ _ (MatAt.mk (x0.alloc _)) (MatAt.mk (x1.alloc _))).mono ?_
  rw [HM.out, orNone_ok rfl]
  rintro e w6 ⟨v6, rfl, ⟨ap, np, kp, bp, op, rfl, xp⟩, hb6⟩
  have Bs := (Box.new w5 _ 25).keep hb6
  have Bsc := Bs.cell
  have Bsf := Bs.thawed
  have Bsz := Bs.lt
  have Bsk := lt_add Bsz
  have hkw6 : Below w5.heap.size w5 w6 := (by repeat (first | exact Below.refl _ _ | refine Below.al ?_ _ | refine Below.drN ?_ _ | refine Below.drew ?_ | refine Below.st ?_ (by first | (dsimp only; omega) | (simp; omega) | simp) _ | refine Below.go ?_ hb6))
  replace B0 := B0.keep hkw6
  replace B0c := B0.cell
  replace B0f := B0.thawed
  replace B0z := B0.lt
  replace B0k := lt_add B0z
  replace B1 := B1.keep hkw6
  replace B1c := B1.cell
  replace B1f := B1.thawed
  replace B1z := B1.lt
  replace B1k := lt_add B1z
  replace x0 := x0.keep hkw6
  replace x1 := x1.keep hkw6
  replace xs := xs.keep hkw6
  replace hh := hh.keep hkw6
  have hsw6 := hkw6.size
  go_wp2_with fail
  refine (error_same _ _ (hh.alloc _)).mono ?_
  rintro e w7 ⟨rfl, hb7⟩
  have Bp := (Box.new w6 _ 25).keep hb7
  have Bpc := Bp.cell
  have Bpf := Bp.thawed
  have Bpz := Bp.lt
  have Bpk := lt_add Bpz
  have hkw7 : Below w6.heap.size w6 w7 := (by repeat (first | exact Below.refl _ _ | refine Below.al ?_ _ | refine Below.drN ?_ _ | refine Below.drew ?_ | refine Below.st ?_ (by first | (dsimp only; omega) | (simp; omega) | simp) _ | refine Below.go ?_ hb7))
  replace B0 := B0.keep hkw7
  replace B0c := B0.cell
  replace B0f := B0.thawed
  replace B0z := B0.lt
  replace B0k := lt_add B0z
  replace B1 := B1.keep hkw7
  replace B1c := B1.cell
  replace B1f := B1.thawed
  replace B1z := B1.lt
  replace B1k := lt_add B1z
  replace Bs := Bs.keep hkw7
  replace Bsc := Bs.cell
  replace Bsf := Bs.thawed
  replace Bsz := Bs.lt
  replace Bsk := lt_add Bsz
  replace x0 := x0.keep hkw7
  replace x1 := x1.keep hkw7
  replace xs := xs.keep hkw7
  replace xp := xp.keep hkw7
  replace hh := hh.keep hkw7
  have hsw7 := hkw7.size
  go_wp2_with fail
  refine (error_same _ _ hh).mono ?_
  rintro e w8 ⟨rfl, hb8⟩
  have hkw8 : Below w7.heap.size w7 w8 := (by repeat (first | exact Below.refl _ _ | refine Below.al ?_ _ | refine Below.drN ?_ _ | refine Below.drew ?_ | refine Below.st ?_ (by first | (dsimp only; omega) | (simp; omega) | simp) _ | refine Below.go ?_ hb8))
  replace B0 := B0.keep hkw8
  replace B0c := B0.cell
  replace B0f := B0.thawed
  replace B0z := B0.lt
  replace B0k := lt_add B0z
  replace B1 := B1.keep hkw8
  replace B1c := B1.cell
  replace B1f := B1.thawed
  replace B1z := B1.lt
  replace B1k := lt_add B1z
  replace Bs := Bs.keep hkw8
  replace Bsc := Bs.cell
  replace Bsf := Bs.thawed
  replace Bsz := Bs.lt
  replace Bsk := lt_add Bsz
  replace Bp := Bp.keep hkw8
  replace Bpc := Bp.cell
  replace Bpf := Bp.thawed
  replace Bpz := Bp.lt
  replace Bpk := lt_add Bpz
  replace x0 := x0.keep hkw8
  replace x1 := x1.keep hkw8
  replace xs := xs.keep hkw8
  replace xp := xp.keep hkw8
  replace hh := hh.keep hkw8
  have hsw8 := hkw8.size
  have lp := xp.lt
  have ls := xs.lt
  have qn21 : w8.heap.size ≠ w.heap.size := by omega
  have qm21 : w.heap.size ≠ w8.heap.size := by omega
  have qn22 : w8.heap.size ≠ w.heap.size+1 := by omega
  have qm22 : w.heap.size+1 ≠ w8.heap.size := by omega
  have qn23 : w8.heap.size ≠ w5.heap.size := by omega
  have qm23 : w5.heap.size ≠ w8.heap.size := by omega
  have qn24 : w8.heap.size ≠ w6.heap.size := by omega
  have qm24 : w6.heap.size ≠ w8.heap.size := by omega
  go_wp2_with fail
  refine (matrices_same Mat.none _ _ _ (MatAt.mk (xs.alloc _)) (none_at _)).mono ?_
  rintro e w9 ⟨rfl, hb9⟩
  have Bw := (Box.new w8 [.int .i64 0, .int .i64 0, .slice none 0 0] 25).keep hb9
  have Bwc := Bw.cell
  have Bwf := Bw.thawed
  have Bwz := Bw.lt
  have Bwk := lt_add Bwz
  have hkw9 : Below w8.heap.size w8 w9 := (by repeat (first | exact Below.refl _ _ | refine Below.al ?_ _ | refine Below.drN ?_ _ | refine Below.drew ?_ | refine Below.st ?_ (by first | (dsimp only; omega) | (simp; omega) | simp) _ | refine Below.go ?_ hb9))
  replace B0 := B0.keep hkw9
  replace B0c := B0.cell
  replace B0f := B0.thawed
  replace B0z := B0.lt
  replace B0k := lt_add B0z
  replace B1 := B1.keep hkw9
  replace B1c := B1.cell
  replace B1f := B1.thawed
  replace B1z := B1.lt
  replace B1k := lt_add B1z
  replace Bp := Bp.keep hkw9
  replace Bpc := Bp.cell
  replace Bpf := Bp.thawed
  replace Bpz := Bp.lt
  replace Bpk := lt_add Bpz
  replace x0 := x0.keep hkw9
  replace x1 := x1.keep hkw9
  replace xp := xp.keep hkw9
  have hsw9 := hkw9.size
  go_wp2_with fail
  refine (refMatMul_all ma mb _ _ _ (MatAt.set3 (B := w8.heap.size) x0 (fun h => by have := l0 h; omega) _ _ _) (MatAt.set3 (B := w8.heap.size) x1 (fun h => by have := l1 h; omega) _ _ _) HM.out).mono ?_
  rintro e w10 ⟨vm, rfl, ⟨am, nm, km, bm, om, rfl, hnm, xm⟩, hb10⟩
  replace Bw := (((Bw.set 0 (.int .i64 0)).set 1 (.int .i64 0)).set 2 (.slice none 0 0)).keep hb10
  have Bwc := Bw.cell
  have Bwf := Bw.thawed
  replace xp := (xp.set3 (B := w8.heap.size) (fun h => by have := lp h; omega) (.int .i64 0) (.int .i64 0) (.slice none 0 0)).keep hb10
  replace Bp := (((Bp.far (a := ⟨w8.heap.size, 0, none⟩) (by dsimp only; omega) (.int .i64 0)).far (a := ⟨w8.heap.size, 1, none⟩) (by dsimp only; omega) (.int .i64 0)).far (a := ⟨w8.heap.size, 2, none⟩) (by dsimp only; omega) (.slice none 0 0)).keep hb10
  have Bpc := Bp.cell
  go_wp2_with fail
  refine (matrices_same (matMul ma mb) _ _ _ (MatAt.set3 (B := w8.heap.size) xp (fun h => by have := lp h; omega) _ _ _) (MatAt.set3 (B := w8.heap.size) xm (fun h => by have := hnm h; simp at this; omega) _ _ _)).mono ?_
  rintro e w11 ⟨rfl, hb11⟩
  go_wp2
  go_ret
  exact ⟨rfl, (by repeat (first | exact Below.refl _ _ | refine Below.al ?_ _ | refine Below.drN ?_ _ | refine Below.drew ?_ | refine Below.st ?_ (by first | (dsimp only; omega) | (simp; omega) | simp) _ | refine Below.go ?_ hb11 | refine Below.go ?_ hb10 | refine Below.go ?_ hb9 | refine Below.go ?_ hb8 | refine Below.go ?_ hb7 | refine Below.go ?_ hb6 | refine Below.go ?_ hb5 | refine Below.go ?_ hb4 | refine Below.go ?_ hb3 | refine Below.go ?_ hb2 | refine Below.go ?_ hb1))⟩
set_option maxRecDepth 100000 in
set_option maxHeartbeats 2000000 in
theorem walk3e (fa : ma.fault = 0) (fb : mb.fault = 0) (q1 : (ma.rows != mb.rows) = true) (q3 : (ma.cols != mb.rows) = true) (HL : Hid (lossFault ma mb = 2)) (HM : Hid (mulFault ma mb = 2)) : Calls Tryd.prog 4 #[.agg #[.int .i64 ma.rows, .int .i64 ma.cols, .slice a0 n0 k0], .agg #[.int .i64 mb.rows, .int .i64 mb.cols, .slice a1 n1 k1]] w fun e w' => e = .returned (.bool true) ∧ Below w.heap.size w w' := by
  have F0 := Lib.hid (show matFault ma.rows ma.cols ma.cells = 0 from fa)
  have F0' := Lib.hid fa
  have F1 := Lib.hid fb
  clear fa fb
  have l0 := x0.lt
  have l1 := x1.lt
  go_enter Tryd.func4, Tryd.ntmps4
  go_wp2_with fail
  refine (refMatFault_any ma _ _ (MatAt.mk (x0.alloc _ |>.alloc _))).mono ?_
  rw [F0'.out]
  rintro e w1 ⟨rfl, hb1⟩
  have B0 := ((Box.new w _ 25).alloc _).keep hb1
  have B0c := B0.cell
  have B0f := B0.thawed
  have B0z := B0.lt
  have B0k := lt_add B0z
  have B1 := (Box.new' _ (w.heap.size + 1) _ 25 (by simp)).keep hb1
  have B1c := B1.cell
  have B1f := B1.thawed
  have B1z := B1.lt
  have B1k := lt_add B1z
  have hkw1 : Below w.heap.size w w1 := (by repeat (first | exact Below.refl _ _ | refine Below.al ?_ _ | refine Below.drN ?_ _ | refine Below.drew ?_ | refine Below.st ?_ (by first | (dsimp only; omega) | (simp; omega) | simp) _ | refine Below.go ?_ hb1))
  replace x0 := x0.keep hkw1
  replace x1 := x1.keep hkw1
  replace hh := hh.keep hkw1
  have hsw1 := hkw1.size
  go_wp2_with fail
  refine (matCheck_any _ _ _ _ _ _ _ ma.cells _ x0).mono ?_
  rw [F0.out]
  rintro e w2 ⟨rfl, hb2⟩
  have hkw2 : Below w1.heap.size w1 w2 := (by repeat (first | exact Below.refl _ _ | refine Below.al ?_ _ | refine Below.drN ?_ _ | refine Below.drew ?_ | refine Below.st ?_ (by first | (dsimp only; omega) | (simp; omega) | simp) _ | refine Below.go ?_ hb2))
  replace B0 := B0.keep hkw2
  replace B0c := B0.cell
  replace B0f := B0.thawed
  replace B0z := B0.lt
  replace B0k := lt_add B0z
  replace B1 := B1.keep hkw2
  replace B1c := B1.cell
  replace B1f := B1.thawed
  replace B1z := B1.lt
  replace B1k := lt_add B1z
  replace x0 := x0.keep hkw2
  replace x1 := x1.keep hkw2
  replace hh := hh.keep hkw2
  have hsw2 := hkw2.size
  go_wp2_with fail
  refine (error_same _ _ hh).mono ?_
  rintro e w3 ⟨rfl, hb3⟩
  have hkw3 : Below w2.heap.size w2 w3 := (by repeat (first | exact Below.refl _ _ | refine Below.al ?_ _ | refine Below.drN ?_ _ | refine Below.drew ?_ | refine Below.st ?_ (by first | (dsimp only; omega) | (simp; omega) | simp) _ | refine Below.go ?_ hb3))
  replace B0 := B0.keep hkw3
  replace B0c := B0.cell
  replace B0f := B0.thawed
  replace B0z := B0.lt
  replace B0k := lt_add B0z
  replace B1 := B1.keep hkw3
  replace B1c := B1.cell
  replace B1f := B1.thawed
  replace B1z := B1.lt
  replace B1k := lt_add B1z
  replace x0 := x0.keep hkw3
  replace x1 := x1.keep hkw3
  replace hh := hh.keep hkw3
  have hsw3 := hkw3.size
  go_wp2_with fail
  refine (refMatFault_any mb _ _ (MatAt.mk x1)).mono ?_
  rw [F1.out]
  rintro e w4 ⟨rfl, hb4⟩
  have hkw4 : Below w3.heap.size w3 w4 := (by repeat (first | exact Below.refl _ _ | refine Below.al ?_ _ | refine Below.drN ?_ _ | refine Below.drew ?_ | refine Below.st ?_ (by first | (dsimp only; omega) | (simp; omega) | simp) _ | refine Below.go ?_ hb4))
  replace B0 := B0.keep hkw4
  replace B0c := B0.cell
  replace B0f := B0.thawed
  replace B0z := B0.lt
  replace B0k := lt_add B0z
  replace B1 := B1.keep hkw4
  replace B1c := B1.cell
  replace B1f := B1.thawed
  replace B1z := B1.lt
  replace B1k := lt_add B1z
  replace x0 := x0.keep hkw4
  replace x1 := x1.keep hkw4
  replace hh := hh.keep hkw4
  have hsw4 := hkw4.size
  go_wp2_with fail
  refine (matAdd_any ma mb _ _ _ (MatAt.mk x0) (MatAt.mk x1)).mono ?_
  rw [HL.out, orNone_bad (by decide)]
  rintro e w5 ⟨v5, rfl, ⟨asx, ns, ks, bs, osx, rfl, hns, xs⟩, hb5⟩
  have hkw5 : Below w4.heap.size w4 w5 := (by repeat (first | exact Below.refl _ _ | refine Below.al ?_ _ | refine Below.drN ?_ _ | refine Below.drew ?_ | refine Below.st ?_ (by first | (dsimp only; omega) | (simp; omega) | simp) _ | refine Below.go ?_ hb5))
  replace B0 := B0.keep hkw5
  replace B0c := B0.cell
  replace B0f := B0.thawed
  replace B0z := B0.lt
  replace B0k := lt_add B0z
  replace B1 := B1.keep hkw5
  replace B1c := B1.cell
  replace B1f := B1.thawed
  replace B1z := B1.lt
  replace B1k := lt_add B1z
  replace x0 := x0.keep hkw5
  replace x1 := x1.keep hkw5
  replace hh := hh.keep hkw5
  have hsw5 := hkw5.size
  go_wp2_with fail
  refine (matMul_all ma mb _ _ _ (MatAt.mk (x0.alloc _)) (MatAt.mk (x1.alloc _))).mono ?_
  rw [HM.out, orNone_bad (by decide)]
  rintro e w6 ⟨v6, rfl, ⟨ap, np, kp, bp, op, rfl, xp⟩, hb6⟩
  have Bs := (Box.new w5 _ 25).keep hb6
  have Bsc := Bs.cell
  have Bsf := Bs.thawed
  have Bsz := Bs.lt
  have Bsk := lt_add Bsz
  have hkw6 : Below w5.heap.size w5 w6 := (by repeat (first | exact Below.refl _ _ | refine Below.al ?_ _ | refine Below.drN ?_ _ | refine Below.drew ?_ | refine Below.st ?_ (by first | (dsimp only; omega) | (simp; omega) | simp) _ | refine Below.go ?_ hb6))
  replace B0 := B0.keep hkw6
  replace B0c := B0.cell
  replace B0f := B0.thawed
  replace B0z := B0.lt
  replace B0k := lt_add B0z
  replace B1 := B1.keep hkw6
  replace B1c := B1.cell
  replace B1f := B1.thawed
  replace B1z := B1.lt
  replace B1k := lt_add B1z
  replace x0 := x0.keep hkw6
  replace x1 := x1.keep hkw6
  replace xs := xs.keep hkw6
  replace hh := hh.keep hkw6
  have hsw6 := hkw6.size
  go_wp2_with fail
  refine (error_same _ _ (hh.alloc _)).mono ?_
  rintro e w7 ⟨rfl, hb7⟩
  have Bp := (Box.new w6 _ 25).keep hb7
  have Bpc := Bp.cell
  have Bpf := Bp.thawed
  have Bpz := Bp.lt
  have Bpk := lt_add Bpz
  have hkw7 : Below w6.heap.size w6 w7 := (by repeat (first | exact Below.refl _ _ | refine Below.al ?_ _ | refine Below.drN ?_ _ | refine Below.drew ?_ | refine Below.st ?_ (by first | (dsimp only; omega) | (simp; omega) | simp) _ | refine Below.go ?_ hb7))
  replace B0 := B0.keep hkw7
  replace B0c := B0.cell
  replace B0f := B0.thawed
  replace B0z := B0.lt
  replace B0k := lt_add B0z
  replace B1 := B1.keep hkw7
  replace B1c := B1.cell
  replace B1f := B1.thawed
  replace B1z := B1.lt
  replace B1k := lt_add B1z
  replace Bs := Bs.keep hkw7
  replace Bsc := Bs.cell
  replace Bsf := Bs.thawed
  replace Bsz := Bs.lt
  replace Bsk := lt_add Bsz
  replace x0 := x0.keep hkw7
  replace x1 := x1.keep hkw7
  replace xs := xs.keep hkw7
  replace xp := xp.keep hkw7
  replace hh := hh.keep hkw7
  have hsw7 := hkw7.size
  go_wp2_with fail
  refine (error_same _ _ hh).mono ?_
  rintro e w8 ⟨rfl, hb8⟩
  have hkw8 : Below w7.heap.size w7 w8 := (by repeat (first | exact Below.refl _ _ | refine Below.al ?_ _ | refine Below.drN ?_ _ | refine Below.drew ?_ | refine Below.st ?_ (by first | (dsimp only; omega) | (simp; omega) | simp) _ | refine Below.go ?_ hb8))
  replace B0 := B0.keep hkw8
  replace B0c := B0.cell
  replace B0f := B0.thawed
  replace B0z := B0.lt
  replace B0k := lt_add B0z
  replace B1 := B1.keep hkw8
  replace B1c := B1.cell
  replace B1f := B1.thawed
  replace B1z := B1.lt
  replace B1k := lt_add B1z
  replace Bs := Bs.keep hkw8
  replace Bsc := Bs.cell
  replace Bsf := Bs.thawed
  replace Bsz := Bs.lt
  replace Bsk := lt_add Bsz
  replace Bp := Bp.keep hkw8
  replace Bpc := Bp.cell
  replace Bpf := Bp.thawed
  replace Bpz := Bp.lt
  replace Bpk := lt_add Bpz
  replace x0 := x0.keep hkw8
  replace x1 := x1.keep hkw8
  replace xs := xs.keep hkw8
  replace xp := xp.keep hkw8
  replace hh := hh.keep hkw8
  have hsw8 := hkw8.size
  have lp := xp.lt
  have ls := xs.lt
  have qn25 : w8.heap.size ≠ w.heap.size := by omega
  have qm25 : w.heap.size ≠ w8.heap.size := by omega
  have qn26 : w8.heap.size ≠ w.heap.size+1 := by omega
  have qm26 : w.heap.size+1 ≠ w8.heap.size := by omega
  have qn27 : w8.heap.size ≠ w5.heap.size := by omega
  have qm27 : w5.heap.size ≠ w8.heap.size := by omega
  have qn28 : w8.heap.size ≠ w6.heap.size := by omega
  have qm28 : w6.heap.size ≠ w8.heap.size := by omega
  go_wp2_with fail
  refine (matrices_same Mat.none _ _ _ (MatAt.mk (xs.alloc _)) (none_at _)).mono ?_
  rintro e w9 ⟨rfl, hb9⟩
  have Bw := (Box.new w8 [.int .i64 0, .int .i64 0, .slice none 0 0] 25).keep hb9
  have Bwc := Bw.cell
  have Bwf := Bw.thawed
  have Bwz := Bw.lt
  have Bwk := lt_add Bwz
  have hkw9 : Below w8.heap.size w8 w9 := (by repeat (first | exact Below.refl _ _ | refine Below.al ?_ _ | refine Below.drN ?_ _ | refine Below.drew ?_ | refine Below.st ?_ (by first | (dsimp only; omega) | (simp; omega) | simp) _ | refine Below.go ?_ hb9))
  replace B0 := B0.keep hkw9
  replace B0c := B0.cell
  replace B0f := B0.thawed
  replace B0z := B0.lt
  replace B0k := lt_add B0z
  replace B1 := B1.keep hkw9
  replace B1c := B1.cell
  replace B1f := B1.thawed
  replace B1z := B1.lt
  replace B1k := lt_add B1z
  replace Bp := Bp.keep hkw9
  replace Bpc := Bp.cell
  replace Bpf := Bp.thawed
  replace Bpz := Bp.lt
  replace Bpk := lt_add Bpz
  replace x0 := x0.keep hkw9
  replace x1 := x1.keep hkw9
  replace xp := xp.keep hkw9
  have hsw9 := hkw9.size
  go_wp2_with fail
  refine (matrices_same Mat.none _ _ _ (MatAt.set3 (B := w8.heap.size) xp (fun h => by have := lp h; omega) _ _ _) (none_at _)).mono ?_
  rintro e w10 ⟨rfl, hb10⟩
  go_wp2
  go_ret
  exact ⟨rfl, (by repeat (first | exact Below.refl _ _ | refine Below.al ?_ _ | refine Below.drN ?_ _ | refine Below.drew ?_ | refine Below.st ?_ (by first | (dsimp only; omega) | (simp; omega) | simp) _ | refine Below.go ?_ hb10 | refine Below.go ?_ hb9 | refine Below.go ?_ hb8 | refine Below.go ?_ hb7 | refine Below.go ?_ hb6 | refine Below.go ?_ hb5 | refine Below.go ?_ hb4 | refine Below.go ?_ hb3 | refine Below.go ?_ hb2 | refine Below.go ?_ hb1))⟩
set_option maxRecDepth 100000 in
set_option maxHeartbeats 2000000 in
theorem walk3f (fa : ma.fault = 0) (fb : mb.fault = 0) (q1 : (ma.rows != mb.rows) = false) (q2 : (ma.cols != mb.cols) = true) (q3 : (ma.cols != mb.rows) = true) (HL : Hid (lossFault ma mb = 2)) (HM : Hid (mulFault ma mb = 2)) : Calls Tryd.prog 4 #[.agg #[.int .i64 ma.rows, .int .i64 ma.cols, .slice a0 n0 k0], .agg #[.int .i64 mb.rows, .int .i64 mb.cols, .slice a1 n1 k1]] w fun e w' => e = .returned (.bool true) ∧ Below w.heap.size w w' := by
  have F0 := Lib.hid (show matFault ma.rows ma.cols ma.cells = 0 from fa)
  have F0' := Lib.hid fa
  have F1 := Lib.hid fb
  clear fa fb
  have l0 := x0.lt
  have l1 := x1.lt
  go_enter Tryd.func4, Tryd.ntmps4
  go_wp2_with fail
  refine (refMatFault_any ma _ _ (MatAt.mk (x0.alloc _ |>.alloc _))).mono ?_
  rw [F0'.out]
  rintro e w1 ⟨rfl, hb1⟩
  have B0 := ((Box.new w _ 25).alloc _).keep hb1
  have B0c := B0.cell
  have B0f := B0.thawed
  have B0z := B0.lt
  have B0k := lt_add B0z
  have B1 := (Box.new' _ (w.heap.size + 1) _ 25 (by simp)).keep hb1
  have B1c := B1.cell
  have B1f := B1.thawed
  have B1z := B1.lt
  have B1k := lt_add B1z
  have hkw1 : Below w.heap.size w w1 := (by repeat (first | exact Below.refl _ _ | refine Below.al ?_ _ | refine Below.drN ?_ _ | refine Below.drew ?_ | refine Below.st ?_ (by first | (dsimp only; omega) | (simp; omega) | simp) _ | refine Below.go ?_ hb1))
  replace x0 := x0.keep hkw1
  replace x1 := x1.keep hkw1
  replace hh := hh.keep hkw1
  have hsw1 := hkw1.size
  go_wp2_with fail
  refine (matCheck_any _ _ _ _ _ _ _ ma.cells _ x0).mono ?_
  rw [F0.out]
  rintro e w2 ⟨rfl, hb2⟩
  have hkw2 : Below w1.heap.size w1 w2 := (by repeat (first | exact Below.refl _ _ | refine Below.al ?_ _ | refine Below.drN ?_ _ | refine Below.drew ?_ | refine Below.st ?_ (by first | (dsimp only; omega) | (simp; omega) | simp) _ | refine Below.go ?_ hb2))
  replace B0 := B0.keep hkw2
  replace B0c := B0.cell
  replace B0f := B0.thawed
  replace B0z := B0.lt
  replace B0k := lt_add B0z
  replace B1 := B1.keep hkw2
  replace B1c := B1.cell
  replace B1f := B1.thawed
  replace B1z := B1.lt
  replace B1k := lt_add B1z
  replace x0 := x0.keep hkw2
  replace x1 := x1.keep hkw2
  replace hh := hh.keep hkw2
  have hsw2 := hkw2.size
  go_wp2_with fail
  refine (error_same _ _ hh).mono ?_
  rintro e w3 ⟨rfl, hb3⟩
  have hkw3 : Below w2.heap.size w2 w3 := (by repeat (first | exact Below.refl _ _ | refine Below.al ?_ _ | refine Below.drN ?_ _ | refine Below.drew ?_ | refine Below.st ?_ (by first | (dsimp only; omega) | (simp; omega) | simp) _ | refine Below.go ?_ hb3))
  replace B0 := B0.keep hkw3
  replace B0c := B0.cell
  replace B0f := B0.thawed
  replace B0z := B0.lt
  replace B0k := lt_add B0z
  replace B1 := B1.keep hkw3
  replace B1c := B1.cell
  replace B1f := B1.thawed
  replace B1z := B1.lt
  replace B1k := lt_add B1z
  replace x0 := x0.keep hkw3
  replace x1 := x1.keep hkw3
  replace hh := hh.keep hkw3
  have hsw3 := hkw3.size
  go_wp2_with fail
  refine (refMatFault_any mb _ _ (MatAt.mk x1)).mono ?_
  rw [F1.out]
  rintro e w4 ⟨rfl, hb4⟩
  have hkw4 : Below w3.heap.size w3 w4 := (by repeat (first | exact Below.refl _ _ | refine Below.al ?_ _ | refine Below.drN ?_ _ | refine Below.drew ?_ | refine Below.st ?_ (by first | (dsimp only; omega) | (simp; omega) | simp) _ | refine Below.go ?_ hb4))
  replace B0 := B0.keep hkw4
  replace B0c := B0.cell
  replace B0f := B0.thawed
  replace B0z := B0.lt
  replace B0k := lt_add B0z
  replace B1 := B1.keep hkw4
  replace B1c := B1.cell
  replace B1f := B1.thawed
  replace B1z := B1.lt
  replace B1k := lt_add B1z
  replace x0 := x0.keep hkw4
  replace x1 := x1.keep hkw4
  replace hh := hh.keep hkw4
  have hsw4 := hkw4.size
  go_wp2_with fail
  refine (matAdd_any ma mb _ _ _ (MatAt.mk x0) (MatAt.mk x1)).mono ?_
  rw [HL.out, orNone_bad (by decide)]
  rintro e w5 ⟨v5, rfl, ⟨asx, ns, ks, bs, osx, rfl, hns, xs⟩, hb5⟩
  have hkw5 : Below w4.heap.size w4 w5 := (by repeat (first | exact Below.refl _ _ | refine Below.al ?_ _ | refine Below.drN ?_ _ | refine Below.drew ?_ | refine Below.st ?_ (by first | (dsimp only; omega) | (simp; omega) | simp) _ | refine Below.go ?_ hb5))
  replace B0 := B0.keep hkw5
  replace B0c := B0.cell
  replace B0f := B0.thawed
  replace B0z := B0.lt
  replace B0k := lt_add B0z
  replace B1 := B1.keep hkw5
  replace B1c := B1.cell
  replace B1f := B1.thawed
  replace B1z := B1.lt
  replace B1k := lt_add B1z
  replace x0 := x0.keep hkw5
  replace x1 := x1.keep hkw5
  replace hh := hh.keep hkw5
  have hsw5 := hkw5.size
  go_wp2_with fail
  refine (matMul_all ma mb _ _ _ (MatAt.mk (x0.alloc _)) (MatAt.mk (x1.alloc _))).mono ?_
  rw [HM.out, orNone_bad (by decide)]
  rintro e w6 ⟨v6, rfl, ⟨ap, np, kp, bp, op, rfl, xp⟩, hb6⟩
  have Bs := (Box.new w5 _ 25).keep hb6
  have Bsc := Bs.cell
  have Bsf := Bs.thawed
  have Bsz := Bs.lt
  have Bsk := lt_add Bsz
  have hkw6 : Below w5.heap.size w5 w6 := (by repeat (first | exact Below.refl _ _ | refine Below.al ?_ _ | refine Below.drN ?_ _ | refine Below.drew ?_ | refine Below.st ?_ (by first | (dsimp only; omega) | (simp; omega) | simp) _ | refine Below.go ?_ hb6))
  replace B0 := B0.keep hkw6
  replace B0c := B0.cell
  replace B0f := B0.thawed
  replace B0z := B0.lt
  replace B0k := lt_add B0z
  replace B1 := B1.keep hkw6
  replace B1c := B1.cell
  replace B1f := B1.thawed
  replace B1z := B1.lt
  replace B1k := lt_add B1z
  replace x0 := x0.keep hkw6
  replace x1 := x1.keep hkw6
  replace xs := xs.keep hkw6
  replace hh := hh.keep hkw6
  have hsw6 := hkw6.size
  go_wp2_with fail
  refine (error_same _ _ (hh.alloc _)).mono ?_
  rintro e w7 ⟨rfl, hb7⟩
  have Bp := (Box.new w6 _ 25).keep hb7
  have Bpc := Bp.cell
  have Bpf := Bp.thawed
  have Bpz := Bp.lt
  have Bpk := lt_add Bpz
  have hkw7 : Below w6.heap.size w6 w7 := (by repeat (first | exact Below.refl _ _ | refine Below.al ?_ _ | refine Below.drN ?_ _ | refine Below.drew ?_ | refine Below.st ?_ (by first | (dsimp only; omega) | (simp; omega) | simp) _ | refine Below.go ?_ hb7))
  replace B0 := B0.keep hkw7
  replace B0c := B0.cell
  replace B0f := B0.thawed
  replace B0z := B0.lt
  replace B0k := lt_add B0z
  replace B1 := B1.keep hkw7
  replace B1c := B1.cell
  replace B1f := B1.thawed
  replace B1z := B1.lt
  replace B1k := lt_add B1z
  replace Bs := Bs.keep hkw7
  replace Bsc := Bs.cell
  replace Bsf := Bs.thawed
  replace Bsz := Bs.lt
  replace Bsk := lt_add Bsz
  replace x0 := x0.keep hkw7
  replace x1 := x1.keep hkw7
  replace xs := xs.keep hkw7
  replace xp := xp.keep hkw7
  replace hh := hh.keep hkw7
  have hsw7 := hkw7.size
  go_wp2_with fail
  refine (error_same _ _ hh).mono ?_
  rintro e w8 ⟨rfl, hb8⟩
  have hkw8 : Below w7.heap.size w7 w8 := (by repeat (first | exact Below.refl _ _ | refine Below.al ?_ _ | refine Below.drN ?_ _ | refine Below.drew ?_ | refine Below.st ?_ (by first | (dsimp only; omega) | (simp; omega) | simp) _ | refine Below.go ?_ hb8))
  replace B0 := B0.keep hkw8
  replace B0c := B0.cell
  replace B0f := B0.thawed
  replace B0z := B0.lt
  replace B0k := lt_add B0z
  replace B1 := B1.keep hkw8
  replace B1c := B1.cell
  replace B1f := B1.thawed
  replace B1z := B1.lt
  replace B1k := lt_add B1z
  replace Bs := Bs.keep hkw8
  replace Bsc := Bs.cell
  replace Bsf := Bs.thawed
  replace Bsz := Bs.lt
  replace Bsk := lt_add Bsz
  replace Bp := Bp.keep hkw8
  replace Bpc := Bp.cell
  replace Bpf := Bp.thawed
  replace Bpz := Bp.lt
  replace Bpk := lt_add Bpz
  replace x0 := x0.keep hkw8
  replace x1 := x1.keep hkw8
  replace xs := xs.keep hkw8
  replace xp := xp.keep hkw8
  replace hh := hh.keep hkw8
  have hsw8 := hkw8.size
  have lp := xp.lt
  have ls := xs.lt
  have qn29 : w8.heap.size ≠ w.heap.size := by omega
  have qm29 : w.heap.size ≠ w8.heap.size := by omega
  have qn30 : w8.heap.size ≠ w.heap.size+1 := by omega
  have qm30 : w.heap.size+1 ≠ w8.heap.size := by omega
  have qn31 : w8.heap.size ≠ w5.heap.size := by omega
  have qm31 : w5.heap.size ≠ w8.heap.size := by omega
  have qn32 : w8.heap.size ≠ w6.heap.size := by omega
  have qm32 : w6.heap.size ≠ w8.heap.size := by omega
  go_wp2_with fail
  refine (matrices_same Mat.none _ _ _ (MatAt.mk (xs.alloc _)) (none_at _)).mono ?_
  rintro e w9 ⟨rfl, hb9⟩
  have Bw := (Box.new w8 [.int .i64 0, .int .i64 0, .slice none 0 0] 25).keep hb9
  have Bwc := Bw.cell
  have Bwf := Bw.thawed
  have Bwz := Bw.lt
  have Bwk := lt_add Bwz
  have hkw9 : Below w8.heap.size w8 w9 := (by repeat (first | exact Below.refl _ _ | refine Below.al ?_ _ | refine Below.drN ?_ _ | refine Below.drew ?_ | refine Below.st ?_ (by first | (dsimp only; omega) | (simp; omega) | simp) _ | refine Below.go ?_ hb9))
  replace B0 := B0.keep hkw9
  replace B0c := B0.cell
  replace B0f := B0.thawed
  replace B0z := B0.lt
  replace B0k := lt_add B0z
  replace B1 := B1.keep hkw9
  replace B1c := B1.cell
  replace B1f := B1.thawed
  replace B1z := B1.lt
  replace B1k := lt_add B1z
  replace Bp := Bp.keep hkw9
  replace Bpc := Bp.cell
  replace Bpf := Bp.thawed
  replace Bpz := Bp.lt
  replace Bpk := lt_add Bpz
  replace x0 := x0.keep hkw9
  replace x1 := x1.keep hkw9
  replace xp := xp.keep hkw9
  have hsw9 := hkw9.size
  go_wp2_with fail
  refine (matrices_same Mat.none _ _ _ (MatAt.set3 (B := w8.heap.size) xp (fun h => by have := lp h; omega) _ _ _) (none_at _)).mono ?_
  rintro e w10 ⟨rfl, hb10⟩
  go_wp2
  go_ret
  exact ⟨rfl, (by repeat (first | exact Below.refl _ _ | refine Below.al ?_ _ | refine Below.drN ?_ _ | refine Below.drew ?_ | refine Below.st ?_ (by first | (dsimp only; omega) | (simp; omega) | simp) _ | refine Below.go ?_ hb10 | refine Below.go ?_ hb9 | refine Below.go ?_ hb8 | refine Below.go ?_ hb7 | refine Below.go ?_ hb6 | refine Below.go ?_ hb5 | refine Below.go ?_ hb4 | refine Below.go ?_ hb3 | refine Below.go ?_ hb2 | refine Below.go ?_ hb1))⟩
end
theorem bne_f {a b : Int} (h : a = b) : (a != b) = false := by simp [h]
theorem bne_t {a b : Int} (h : a ≠ b) : (a != b) = true := by simp [h]
theorem walk (ma : Mat) (va : Value) (mb : Mat) (vb : Value) (w : World) (ha : MatAt w va ma) (hb : MatAt w vb mb) (hh : Handle w) : Calls Tryd.prog 4 #[va, vb] w fun e w' => e = .returned (.bool true) ∧ Below w.heap.size w w' := by
  obtain ⟨a0, n0, k0, b0, o0, rfl, x0⟩ := ha
  obtain ⟨a1, n1, k1, b1, o1, rfl, x1⟩ := hb
  by_cases fa : ma.fault = 0
  · by_cases fb : mb.fault = 0
    · have hL := loss_is ma mb
      have hM := mulF_is ma mb
      rw [if_pos fa, if_pos fb] at hL hM
      by_cases h1 : ma.rows = mb.rows
      · by_cases h2 : ma.cols = mb.cols
        · rw [if_pos ⟨h1, h2⟩] at hL
          by_cases h3 : ma.cols = mb.rows
          · rw [if_pos h3] at hM
            exact walk3a ma mb _ _ _ _ _ _ _ _ _ _ w x0 x1 hh fa fb (bne_f h1) (bne_f h2) (bne_f h3) (Lib.hid hL) (Lib.hid hM)
          · rw [if_neg h3] at hM
            exact walk3b ma mb _ _ _ _ _ _ _ _ _ _ w x0 x1 hh fa fb (bne_f h1) (bne_f h2) (bne_t h3) (Lib.hid hL) (Lib.hid hM)
        · rw [if_neg (fun h => h2 h.2)] at hL
          by_cases h3 : ma.cols = mb.rows
          · rw [if_pos h3] at hM
            exact walk3d ma mb _ _ _ _ _ _ _ _ _ _ w x0 x1 hh fa fb (bne_f h1) (bne_t h2) (bne_f h3) (Lib.hid hL) (Lib.hid hM)
          · rw [if_neg h3] at hM
            exact walk3f ma mb _ _ _ _ _ _ _ _ _ _ w x0 x1 hh fa fb (bne_f h1) (bne_t h2) (bne_t h3) (Lib.hid hL) (Lib.hid hM)
      · rw [if_neg (fun h => h1 h.1)] at hL
        by_cases h3 : ma.cols = mb.rows
        · rw [if_pos h3] at hM
          exact walk3c ma mb _ _ _ _ _ _ _ _ _ _ w x0 x1 hh fa fb (bne_t h1) (bne_f h3) (Lib.hid hL) (Lib.hid hM)
        · rw [if_neg h3] at hM
          exact walk3e ma mb _ _ _ _ _ _ _ _ _ _ w x0 x1 hh fa fb (bne_t h1) (bne_t h3) (Lib.hid hL) (Lib.hid hM)
    · exact walk2 ma mb _ _ _ _ _ _ _ _ _ _ w x0 x1 hh fa fb
  · exact walk1 ma mb _ _ _ _ _ _ _ _ _ _ w x0 x1 hh fa

theorem own : ownKnob Tryd.prog.godebug = none := by kernel_rfl
theorem laidOut : laidOutB Tryd.prog = true := by kernel_rfl
theorem et : Tryd.prog.globalNamed "errors.errorType" = some 0 := by kernel_rfl
theorem rt : (Tryd.prog.cutTypes.find? (·.1 == "internal/reflectlite.rtype")).map (·.2) = some 171 := by kernel_rfl
theorem oneRow : ((List.range 215).filter fun t => Tryd.prog.rowNamed t [101, 114, 114, 111, 114]) = [27] := by kernel_rfl
theorem tsize : Tryd.prog.types.size = 215 := by kernel_rfl
theorem handle_of_laid {W : World} (h : laidMetH Tryd.prog Rows.matPairsRow.laid W) : Handle W := by
  have h' : laidMet Tryd.prog [] W ∧ handlesMet Tryd.prog Rows.matPairsRow.laid W := h
  obtain ⟨name, u, ty, e1, e2, e3, e4, e5⟩ := h'.2 _ (List.mem_singleton.2 rfl)
  have en : name = [101, 114, 114, 111, 114] := (Option.some.inj e1).symm
  subst en
  obtain rfl := Option.some.inj (rt.symm.trans e2)
  have hm : ty ∈ (List.range 215).filter fun t => Tryd.prog.rowNamed t [101, 114, 114, 111, 114] := List.mem_filter.2 ⟨List.mem_range.2 (by rw [← tsize]; exact e3), e4⟩
  rw [oneRow] at hm
  obtain rfl := List.mem_singleton.1 hm
  have hh : typeHandle Tryd.prog 27 = .pointer (some ⟨1, 27, none⟩) := by kernel_rfl
  rw [hh] at e5
  simpa [Handle, handleV] using World.var?_cell et e5 0
noncomputable def laidWorld (os : Os) : World :=
  { World.holding Tryd.prog os ⟨#[], #[], []⟩ with heap := (World.holding Tryd.prog os ⟨#[], #[], []⟩).heap.modify 0 fun
      | .cells _ t frozen => .cells #[.iface 171 (.agg #[.pointer (some ⟨1, 27, none⟩)])] t frozen
      | o => o }
theorem laid_met (os : Os) : laidMetH Tryd.prog Rows.matPairsRow.laid ((laidWorld os).forCall (fun _ _ => 0) ⟨#[], #[.agg #[.int .i64 0, .int .i64 0, .slice none 0 0], .agg #[.int .i64 0, .int .i64 0, .slice none 0 0]], []⟩).memory :=
  laidMetH_of_parts (laidMet_nil _ _) (by kernel_rfl)
theorem reads (os : Os) {H : Type} (enc : TypeId × Value → H) : ∃ places, DataW.whole enc Tryd.prog ((laidWorld os).forCall (fun _ _ => 0) ⟨#[], #[.agg #[.int .i64 0, .int .i64 0, .slice none 0 0], .agg #[.int .i64 0, .int .i64 0, .slice none 0 0]], []⟩).memory Tryd.f4.params.toList Rows.matPairsSpec.vars false (#[.agg #[.int .i64 0, .int .i64 0, .slice none 0 0], .agg #[.int .i64 0, .int .i64 0, .slice none 0 0]] : Array Value).toList 8 = some ([.agg [.lit (.int .i64 0), .lit (.int .i64 0), .nil], .agg [.lit (.int .i64 0), .lit (.int .i64 0), .nil]], [], places) :=
  ⟨[], by kernel_rfl⟩
set_option maxRecDepth 100000 in
set_option maxHeartbeats 1000000 in
theorem contract (H : Type) (enc : TypeId × Value → H) (W : World) (base : Nat) (args : Array Value) (ds gs : List (DataW H)) (before : List MemPlace)
    (hval0 : ∀ (j : Nat) t v, Tryd.f4.params[j]? = some t → args[j]? = some v → Value.okWide Tryd.prog W .any base t v)
    (hW : DataW.Whole enc Tryd.prog Tryd.f4.params.toList Rows.matPairsSpec.vars false W args.toList ds gs before) (hh : Handle W) :
    Calls Tryd.prog 4 args W fun e W' => ∃ v, e = .returned v ∧ Rows.matPairsSpec.post enc Tryd.prog Tryd.f4 false true false false W args v W' := by
  have hval := hval0
  have hW' := hW
  obtain ⟨p, q, hA0, hV, rfl, hfz, hnd⟩ := hW
  have hA : DataW.TrodAll enc Tryd.prog W 0 (fun _ => true) true Tryd.f4.params.toList args.toList ds p := hA0
  rw [Tryd.params4] at hA hval
  obtain ⟨v0, vs0, d0, ds0, p0, q0, hargs, rfl, rfl, h0, r0⟩ := trodAll_cons hA
  obtain ⟨v1, vs1, d1, ds1, p1, q1, rfl, rfl, rfl, h1, r1⟩ := trodAll_cons r0
  obtain ⟨rfl, rfl, rfl⟩ := trodAll_nil r1
  obtain rfl : args = #[v0, v1] := by cases args; simp_all
  obtain ⟨rfl, rfl⟩ := trodVars_none hV
  have k0 := h0
  have lt0 : ∀ x ∈ p0, x.block < W.heap.size := by obtain ⟨m, hm⟩ := k0; exact DataW.trod_lt m _ _ _ hm
  have k1 := h1
  have lt1 : ∀ x ∈ p1, x.block < W.heap.size := by obtain ⟨m, hm⟩ := k1; exact DataW.trod_lt m _ _ _ hm
  obtain ⟨a0, w0⟩ := open_mat (hval 0 25 v0 rfl rfl) h0
  obtain ⟨a1, w1⟩ := open_mat (hval 1 25 v1 rfl rfl) h1
  clear hA0 hval0
  refine (walk a0 v0 a1 v1 W w0 w1 hh).mono fun e W' ⟨he, bel⟩ => ?_
  subst he
  exact ⟨_, rfl, _, _, _, [], _, [], hW', trodAll_mk1 (shut_bool Tryd.underlying4 _), (trodAll_cons_mk (Below.trod laidOut (by kernel_rfl) (of_decide_eq_true (by kernel_rfl)) k0 bel lt0) (trodAll_cons_mk (Below.trod laidOut (by kernel_rfl) (of_decide_eq_true (by kernel_rfl)) k1 bel lt1) trodAll_mk0)), rfl, bel.frame _, fun h => by cases h⟩

set_option maxRecDepth 100000 in
theorem lifted (os : Os) (started : os.Started) (H : Type) (enc : TypeId × Value → H) (F : Stop.Interp) :
    ReturnsInHanded {} Tryd.checked os 4 .any ((OpenSpec.ofChange Rows.matPairsSpec).preRow enc Tryd.prog Tryd.f4 Rows.matPairsRow.domain false Rows.matPairsRow.laid) (((OpenSpec.ofChange Rows.matPairsSpec).at F).post enc Tryd.prog Tryd.f4 false true false false) := by
  obtain ⟨places, hx⟩ := reads os enc
  refine returnsInHanded_of_row (C := Tryd.checked) (s := OpenSpec.ofChange Rows.matPairsSpec) own started (by kernel_rfl) Tryd.func4
    (witness_row_at (enc := enc) (C := Tryd.checked) false (laidWorld os) #[.agg #[.int .i64 0, .int .i64 0, .slice none 0 0], .agg #[.int .i64 0, .int .i64 0, .slice none 0 0]] rfl (by kernel_rfl) (by kernel_rfl) (by kernel_rfl)
      (OpenSpec.preRow_of_cond 8 hx (by kernel_rfl) (fun k hk => by cases hk) (by kernel_rfl) (laid_met os))) ?_
  intro W base args ds gs before hval hW _ _ _ hL _ _
  exact contract H enc W base args ds gs before hval hW (handle_of_laid hL)

theorem said : Rows.MatPairsSaid :=
  OpenClaim.holds_of_cond 4 Tryd.f4 rfl rfl rfl rfl rfl rfl rfl ⟨rfl, rfl, rfl, rfl, rfl⟩ rfl rfl rfl rfl rfl (by kernel_rfl) Tryd.func4 (by kernel_rfl)
    (of_decide_eq_true (by kernel_rfl)) (by unfold Func.isWrapper; first | (rw [if_pos (by decide +kernel)]; kernel_rfl) | (rw [if_neg (by decide +kernel)]; exact ⟨rfl, rfl⟩))
    (fun os started H enc _ F => by rw [OpenClaim.pre_eq_preRow]; exact lifted os started H enc F)
theorem plain (f : FuncId) (fn : Func) (hf : Tryd.pinned.checked.prog.funcNamed Rows.matPairsRow.func = some f) (hfn : Tryd.pinned.checked.prog.funcs[f]? = some fn) :
    Rows.matPairsCard.stood.looks = Tryd.pinned.checked.prog.looks [] ∧ ∀ (j : Nat) t, fn.params[j]? = some t → Tryd.pinned.checked.prog.wantsStandIn t = false := by
  obtain rfl : f = 4 := Option.some.inj ((show Tryd.prog.funcNamed Rows.matPairsRow.func = some 4 by kernel_rfl).symm.trans hf) |>.symm
  obtain rfl : fn = Tryd.f4 := (Option.some.inj (Tryd.func4.symm.trans hfn)).symm
  refine ⟨by kernel_rfl, fun j t ht => ?_⟩
  rw [Tryd.params4] at ht
  have hm := Array.mem_of_getElem? ht
  have hc : t = 25 ∨ t = 25 := by simpa using hm
  rcases hc with rfl | rfl
  · exact (show Tryd.prog.wantsStandIn 25 = false by kernel_rfl)
  · exact (show Tryd.prog.wantsStandIn 25 = false by kernel_rfl)
theorem proved : Rows.MatPairsCardSaid :=
  Claim7.holds_tied_plain_at .later [] _ _ _ _ said (fun _ h => by cases h) (by kernel_rfl) (fun _ h => by cases h) matPairs_row_tie rfl ⟨rfl, rfl⟩ (by kernel_rfl) rfl plain (by kernel_rfl)
#print axioms proved

end Go.Proofs.YtopckalgpeapnaaDoor.lawMatPairs
