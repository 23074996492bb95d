/- MatParts: of any matrix, what it is turned, times any number, summed up, and any rows of it are the document's, or the fault is told: the law returns true, and the input reads as it did. No condition. -/
import Derived.Test.YtopckalgpeapnaaDoorCards
import Derived.Test.YtopckalgpeapnaaDoorTie
import Derived.Test.YtopckalgpeapnaaDoorUni
import Derived.Test.YtopckalgpeapnaaDoorOpen
import Derived.Deep.DeepHandedRow
set_option linter.unusedVariables false
set_option linter.unusedSimpArgs false
set_option linter.unusedSectionVars false
namespace Go.Proofs.YtopckalgpeapnaaDoor.lawMatParts
open Go.ChangeShapes Go.WideShapes Go.ChangeAt Go.RowKit Gal


section
variable (ma : Mat) (a0 : Option Addr) (n0 k0 b0 o0 : Nat) (x lo hi : Int) (w : World) (x0 : IntsAt w a0 n0 k0 b0 o0 ma.cells) (hh : Handle w) (bx : -9223372036854775808 ≤ lo ∧ lo ≤ 9223372036854775807 ∧ -9223372036854775808 ≤ hi ∧ hi ≤ 9223372036854775807)
include x0 hh bx
set_option maxRecDepth 100000 in
set_option maxHeartbeats 4000000 in
theorem walk1 (hf : ma.fault ≠ 0) : Calls Tryd.prog 5 #[.agg #[.int .i64 ma.rows, .int .i64 ma.cols, .slice a0 n0 k0], .int .i64 x, .int .i64 lo, .int .i64 hi] w fun e w' => e = .returned (.bool true) ∧ Below w.heap.size w w' := by
  have HT := Lib.hid (show turnFault ma = ma.fault from if_neg hf)
  have HR := Lib.hid (show rowsFault ma lo hi = ma.fault from if_neg hf)
  have q1 : (ma.fault != 0) = true := by simp [hf]
  have HF := Lib.hid hf
  clear hf bx
  go_enter Tryd.func5, Tryd.ntmps5
  go_wp2_with fail
  refine (refMatFault_any ma _ _ (MatAt.mk (x0.alloc _))).mono ?_
  rw [show ma.fault = ma.fault from rfl]
  rintro e w1 ⟨rfl, hb1⟩
  have B0 := (Box.new w _ 25).keep hb1
  have B0c := B0.cell
  have B0f := B0.thawed
  have B0z := B0.lt
  have B0k := lt_add B0z
  have hkw1 : Below w.heap.size w w1 := (by repeat (first | exact Below.refl _ _ | refine Below.al ?_ _ | refine Below.drN ?_ _ | refine Below.drew ?_ | refine Below.st ?_ (by first | (dsimp only; omega) | (simp; omega) | simp) _ | refine Below.go ?_ hb1))
  replace x0 := x0.keep hkw1
  replace hh := hh.keep hkw1
  have hsw1 := hkw1.size
  go_wp2_with fail
  refine (matTurn_all ma _ _ (MatAt.mk x0)).mono ?_
  rw [HT.out, orNone_bad HF.out]
  rintro e w2 ⟨v2, rfl, ⟨a2, n2, k2, b2, o2, rfl, x2⟩, hb2⟩
  have hkw2 : Below w1.heap.size w1 w2 := (by repeat (first | exact Below.refl _ _ | refine Below.al ?_ _ | refine Below.drN ?_ _ | refine Below.drew ?_ | refine Below.st ?_ (by first | (dsimp only; omega) | (simp; omega) | simp) _ | refine Below.go ?_ hb2))
  replace B0 := B0.keep hkw2
  replace B0c := B0.cell
  replace B0f := B0.thawed
  replace B0z := B0.lt
  replace B0k := lt_add B0z
  replace x0 := x0.keep hkw2
  replace hh := hh.keep hkw2
  have hsw2 := hkw2.size
  go_wp2_with fail
  refine (matTimes_any ma x _ _ (MatAt.mk (x0.alloc _))).mono ?_
  rw [orNone_bad HF.out]
  rintro e w3 ⟨v3, rfl, ⟨a3, n3, k3, b3, o3, rfl, hn3, x3⟩, hb3⟩
  have Bt := (Box.new w2 _ 25).keep hb3
  have Btc := Bt.cell
  have Btf := Bt.thawed
  have Btz := Bt.lt
  have Btk := lt_add Btz
  have hkw3 : Below w2.heap.size w2 w3 := (by repeat (first | exact Below.refl _ _ | refine Below.al ?_ _ | refine Below.drN ?_ _ | refine Below.drew ?_ | refine Below.st ?_ (by first | (dsimp only; omega) | (simp; omega) | simp) _ | refine Below.go ?_ hb3))
  replace B0 := B0.keep hkw3
  replace B0c := B0.cell
  replace B0f := B0.thawed
  replace B0z := B0.lt
  replace B0k := lt_add B0z
  replace x0 := x0.keep hkw3
  replace x2 := x2.keep hkw3
  replace hh := hh.keep hkw3
  have hsw3 := hkw3.size
  go_wp2_with fail
  refine (matSums_any ma _ _ (MatAt.mk (x0.alloc _))).mono ?_
  rw [orNone_bad HF.out]
  rintro e w4 ⟨v4, rfl, ⟨a4, n4, k4, b4, o4, rfl, hn4, x4⟩, hb4⟩
  have Bu := (Box.new w3 _ 25).keep hb4
  have Buc := Bu.cell
  have Buf := Bu.thawed
  have Buz := Bu.lt
  have Buk := lt_add Buz
  have hkw4 : Below w3.heap.size w3 w4 := (by repeat (first | exact Below.refl _ _ | refine Below.al ?_ _ | refine Below.drN ?_ _ | refine Below.drew ?_ | refine Below.st ?_ (by first | (dsimp only; omega) | (simp; omega) | simp) _ | refine Below.go ?_ hb4))
  replace B0 := B0.keep hkw4
  replace B0c := B0.cell
  replace B0f := B0.thawed
  replace B0z := B0.lt
  replace B0k := lt_add B0z
  replace Bt := Bt.keep hkw4
  replace Btc := Bt.cell
  replace Btf := Bt.thawed
  replace Btz := Bt.lt
  replace Btk := lt_add Btz
  replace x0 := x0.keep hkw4
  replace x2 := x2.keep hkw4
  replace x3 := x3.keep hkw4
  replace hh := hh.keep hkw4
  have hsw4 := hkw4.size
  go_wp2_with fail
  refine (matRows_all ma _ lo hi _ (MatAt.mk (x0.alloc _))).mono ?_
  rw [HR.out, orNone_bad HF.out]
  rintro e w5 ⟨v5, rfl, ⟨a5, n5, k5, b5, o5, rfl, x5⟩, hb5⟩
  have Bv := (Box.new w4 _ 25).keep hb5
  have Bvc := Bv.cell
  have Bvf := Bv.thawed
  have Bvz := Bv.lt
  have Bvk := lt_add Bvz
  have hkw5 : Below w4.heap.size w4 w5 := (by repeat (first | exact Below.refl _ _ | refine Below.al ?_ _ | refine Below.drN ?_ _ | refine Below.drew ?_ | refine Below.st ?_ (by first | (dsimp only; omega) | (simp; omega) | simp) _ | refine Below.go ?_ hb5))
  replace B0 := B0.keep hkw5
  replace B0c := B0.cell
  replace B0f := B0.thawed
  replace B0z := B0.lt
  replace B0k := lt_add B0z
  replace Bt := Bt.keep hkw5
  replace Btc := Bt.cell
  replace Btf := Bt.thawed
  replace Btz := Bt.lt
  replace Btk := lt_add Btz
  replace Bu := Bu.keep hkw5
  replace Buc := Bu.cell
  replace Buf := Bu.thawed
  replace Buz := Bu.lt
  replace Buk := lt_add Buz
  replace x0 := x0.keep hkw5
  replace x2 := x2.keep hkw5
  replace x3 := x3.keep hkw5
  replace x4 := x4.keep hkw5
  replace hh := hh.keep hkw5
  have hsw5 := hkw5.size
  go_wp2_with fail
  refine (error_same _ _ ((hh.alloc _).alloc _)).mono ?_
  rintro e w6 ⟨rfl, hb6⟩
  have Br := ((Box.new w5 _ 25).alloc _).keep hb6
  have Brc := Br.cell
  have Brf := Br.thawed
  have Brz := Br.lt
  have Brk := lt_add Brz
  have Bn := (Box.new' _ (w5.heap.size + 1) [.int .i64 0, .int .i64 0, .slice none 0 0] 25 (by simp)).keep hb6
  have Bnc := Bn.cell
  have Bnf := Bn.thawed
  have Bnz := Bn.lt
  have Bnk := lt_add Bnz
  have hkw6 : Below w5.heap.size w5 w6 := (by repeat (first | exact Below.refl _ _ | refine Below.al ?_ _ | refine Below.drN ?_ _ | refine Below.drew ?_ | refine Below.st ?_ (by first | (dsimp only; omega) | (simp; omega) | simp) _ | refine Below.go ?_ hb6))
  replace Bt := Bt.keep hkw6
  replace Btc := Bt.cell
  replace Btf := Bt.thawed
  replace Btz := Bt.lt
  replace Btk := lt_add Btz
  replace Bu := Bu.keep hkw6
  replace Buc := Bu.cell
  replace Buf := Bu.thawed
  replace Buz := Bu.lt
  replace Buk := lt_add Buz
  replace Bv := Bv.keep hkw6
  replace Bvc := Bv.cell
  replace Bvf := Bv.thawed
  replace Bvz := Bv.lt
  replace Bvk := lt_add Bvz
  replace x2 := x2.keep hkw6
  replace x3 := x3.keep hkw6
  replace x4 := x4.keep hkw6
  replace x5 := x5.keep hkw6
  replace hh := hh.keep hkw6
  have hsw6 := hkw6.size
  go_wp2_with fail
  refine (error_same _ _ hh).mono ?_
  rintro e w7 ⟨rfl, hb7⟩
  have hkw7 : Below w6.heap.size w6 w7 := (by repeat (first | exact Below.refl _ _ | refine Below.al ?_ _ | refine Below.drN ?_ _ | refine Below.drew ?_ | refine Below.st ?_ (by first | (dsimp only; omega) | (simp; omega) | simp) _ | refine Below.go ?_ hb7))
  replace Bt := Bt.keep hkw7
  replace Btc := Bt.cell
  replace Btf := Bt.thawed
  replace Btz := Bt.lt
  replace Btk := lt_add Btz
  replace Bu := Bu.keep hkw7
  replace Buc := Bu.cell
  replace Buf := Bu.thawed
  replace Buz := Bu.lt
  replace Buk := lt_add Buz
  replace Bv := Bv.keep hkw7
  replace Bvc := Bv.cell
  replace Bvf := Bv.thawed
  replace Bvz := Bv.lt
  replace Bvk := lt_add Bvz
  replace Br := Br.keep hkw7
  replace Brc := Br.cell
  replace Brf := Br.thawed
  replace Brz := Br.lt
  replace Brk := lt_add Brz
  replace Bn := Bn.keep hkw7
  replace Bnc := Bn.cell
  replace Bnf := Bn.thawed
  replace Bnz := Bn.lt
  replace Bnk := lt_add Bnz
  replace x2 := x2.keep hkw7
  replace x3 := x3.keep hkw7
  replace x4 := x4.keep hkw7
  replace x5 := x5.keep hkw7
  replace hh := hh.keep hkw7
  have hsw7 := hkw7.size
  go_wp2_with fail
  refine (error_same _ _ hh).mono ?_
  rintro e w8 ⟨rfl, hb8⟩
  have hkw8 : Below w7.heap.size w7 w8 := (by repeat (first | exact Below.refl _ _ | refine Below.al ?_ _ | refine Below.drN ?_ _ | refine Below.drew ?_ | refine Below.st ?_ (by first | (dsimp only; omega) | (simp; omega) | simp) _ | refine Below.go ?_ hb8))
  replace Bt := Bt.keep hkw8
  replace Btc := Bt.cell
  replace Btf := Bt.thawed
  replace Btz := Bt.lt
  replace Btk := lt_add Btz
  replace Bu := Bu.keep hkw8
  replace Buc := Bu.cell
  replace Buf := Bu.thawed
  replace Buz := Bu.lt
  replace Buk := lt_add Buz
  replace Bv := Bv.keep hkw8
  replace Bvc := Bv.cell
  replace Bvf := Bv.thawed
  replace Bvz := Bv.lt
  replace Bvk := lt_add Bvz
  replace Br := Br.keep hkw8
  replace Brc := Br.cell
  replace Brf := Br.thawed
  replace Brz := Br.lt
  replace Brk := lt_add Brz
  replace Bn := Bn.keep hkw8
  replace Bnc := Bn.cell
  replace Bnf := Bn.thawed
  replace Bnz := Bn.lt
  replace Bnk := lt_add Bnz
  replace x2 := x2.keep hkw8
  replace x3 := x3.keep hkw8
  replace x4 := x4.keep hkw8
  replace x5 := x5.keep hkw8
  replace hh := hh.keep hkw8
  have hsw8 := hkw8.size
  go_wp2_with fail
  refine (error_same _ _ hh).mono ?_
  rintro e w9 ⟨rfl, hb9⟩
  have hkw9 : Below w8.heap.size w8 w9 := (by repeat (first | exact Below.refl _ _ | refine Below.al ?_ _ | refine Below.drN ?_ _ | refine Below.drew ?_ | refine Below.st ?_ (by first | (dsimp only; omega) | (simp; omega) | simp) _ | refine Below.go ?_ hb9))
  replace Bt := Bt.keep hkw9
  replace Btc := Bt.cell
  replace Btf := Bt.thawed
  replace Btz := Bt.lt
  replace Btk := lt_add Btz
  replace Bu := Bu.keep hkw9
  replace Buc := Bu.cell
  replace Buf := Bu.thawed
  replace Buz := Bu.lt
  replace Buk := lt_add Buz
  replace Bv := Bv.keep hkw9
  replace Bvc := Bv.cell
  replace Bvf := Bv.thawed
  replace Bvz := Bv.lt
  replace Bvk := lt_add Bvz
  replace Br := Br.keep hkw9
  replace Brc := Br.cell
  replace Brf := Br.thawed
  replace Brz := Br.lt
  replace Brk := lt_add Brz
  replace Bn := Bn.keep hkw9
  replace Bnc := Bn.cell
  replace Bnf := Bn.thawed
  replace Bnz := Bn.lt
  replace Bnk := lt_add Bnz
  replace x2 := x2.keep hkw9
  replace x3 := x3.keep hkw9
  replace x4 := x4.keep hkw9
  replace x5 := x5.keep hkw9
  replace hh := hh.keep hkw9
  have hsw9 := hkw9.size
  go_wp2_with fail
  refine (matrices_same Mat.none _ _ _ (MatAt.mk x2) (none_at _)).mono ?_
  rintro e w10 ⟨rfl, hb10⟩
  have hkw10 : Below w9.heap.size w9 w10 := (by repeat (first | exact Below.refl _ _ | refine Below.al ?_ _ | refine Below.drN ?_ _ | refine Below.drew ?_ | refine Below.st ?_ (by first | (dsimp only; omega) | (simp; omega) | simp) _ | refine Below.go ?_ hb10))
  replace Bt := Bt.keep hkw10
  replace Btc := Bt.cell
  replace Btf := Bt.thawed
  replace Btz := Bt.lt
  replace Btk := lt_add Btz
  replace Bu := Bu.keep hkw10
  replace Buc := Bu.cell
  replace Buf := Bu.thawed
  replace Buz := Bu.lt
  replace Buk := lt_add Buz
  replace Bv := Bv.keep hkw10
  replace Bvc := Bv.cell
  replace Bvf := Bv.thawed
  replace Bvz := Bv.lt
  replace Bvk := lt_add Bvz
  replace Br := Br.keep hkw10
  replace Brc := Br.cell
  replace Brf := Br.thawed
  replace Brz := Br.lt
  replace Brk := lt_add Brz
  replace Bn := Bn.keep hkw10
  replace Bnc := Bn.cell
  replace Bnf := Bn.thawed
  replace Bnz := Bn.lt
  replace Bnk := lt_add Bnz
  replace x3 := x3.keep hkw10
  replace x4 := x4.keep hkw10
  replace x5 := x5.keep hkw10
  have hsw10 := hkw10.size
  go_wp2_with fail
  refine (matrices_same Mat.none _ _ _ (MatAt.mk x3) (none_at _)).mono ?_
  rintro e w11 ⟨rfl, hb11⟩
  have hkw11 : Below w10.heap.size w10 w11 := (by repeat (first | exact Below.refl _ _ | refine Below.al ?_ _ | refine Below.drN ?_ _ | refine Below.drew ?_ | refine Below.st ?_ (by first | (dsimp only; omega) | (simp; omega) | simp) _ | refine Below.go ?_ hb11))
  replace Bu := Bu.keep hkw11
  replace Buc := Bu.cell
  replace Buf := Bu.thawed
  replace Buz := Bu.lt
  replace Buk := lt_add Buz
  replace Bv := Bv.keep hkw11
  replace Bvc := Bv.cell
  replace Bvf := Bv.thawed
  replace Bvz := Bv.lt
  replace Bvk := lt_add Bvz
  replace Br := Br.keep hkw11
  replace Brc := Br.cell
  replace Brf := Br.thawed
  replace Brz := Br.lt
  replace Brk := lt_add Brz
  replace Bn := Bn.keep hkw11
  replace Bnc := Bn.cell
  replace Bnf := Bn.thawed
  replace Bnz := Bn.lt
  replace Bnk := lt_add Bnz
  replace x4 := x4.keep hkw11
  replace x5 := x5.keep hkw11
  have hsw11 := hkw11.size
  go_wp2_with fail
  refine (matrices_same Mat.none _ _ _ (MatAt.mk x4) (none_at _)).mono ?_
  rintro e w12 ⟨rfl, hb12⟩
  have hkw12 : Below w11.heap.size w11 w12 := (by repeat (first | exact Below.refl _ _ | refine Below.al ?_ _ | refine Below.drN ?_ _ | refine Below.drew ?_ | refine Below.st ?_ (by first | (dsimp only; omega) | (simp; omega) | simp) _ | refine Below.go ?_ hb12))
  replace Bv := Bv.keep hkw12
  replace Bvc := Bv.cell
  replace Bvf := Bv.thawed
  replace Bvz := Bv.lt
  replace Bvk := lt_add Bvz
  replace Br := Br.keep hkw12
  replace Brc := Br.cell
  replace Brf := Br.thawed
  replace Brz := Br.lt
  replace Brk := lt_add Brz
  replace Bn := Bn.keep hkw12
  replace Bnc := Bn.cell
  replace Bnf := Bn.thawed
  replace Bnz := Bn.lt
  replace Bnk := lt_add Bnz
  replace x5 := x5.keep hkw12
  have hsw12 := hkw12.size
  go_wp2_with fail
  refine (matrices_same Mat.none _ _ _ (MatAt.mk x5) (none_at _)).mono ?_
  rintro e w13 ⟨rfl, hb13⟩
  go_wp2
  go_ret
  exact ⟨rfl, (by repeat (first | exact Below.refl _ _ | refine Below.al ?_ _ | refine Below.drN ?_ _ | refine Below.drew ?_ | refine Below.st ?_ (by first | (dsimp only; omega) | (simp; omega) | simp) _ | refine Below.go ?_ hb13 | refine Below.go ?_ hb12 | refine Below.go ?_ hb11 | refine Below.go ?_ hb10 | refine Below.go ?_ hb9 | refine Below.go ?_ hb8 | refine Below.go ?_ hb7 | refine Below.go ?_ hb6 | refine Below.go ?_ hb5 | refine Below.go ?_ hb4 | refine Below.go ?_ hb3 | refine Below.go ?_ hb2 | refine Below.go ?_ hb1))⟩

set_option maxRecDepth 100000 in
set_option maxHeartbeats 4000000 in
theorem walk2a (fa : ma.fault = 0) (q1 : ¬ 12 < ma.rows) (HT : Hid (turnFault ma = 0)) : Calls Tryd.prog 5 #[.agg #[.int .i64 ma.rows, .int .i64 ma.cols, .slice a0 n0 k0], .int .i64 x, .int .i64 lo, .int .i64 hi] w fun e w' => e = .returned (.bool true) ∧ Below w.heap.size w w' := by
  have F0 := Lib.hid fa
  have FE := Lib.hid (errV_nil fa)
  have hR : rowsFault ma lo hi = if lo < 0 ∨ hi < lo ∨ ma.rows < hi then 1 else 0 := if_pos fa
  have hg0 := hh.lt
  have l0 := x0.lt
  clear fa
  obtain ⟨fq, hfq⟩ : ∃ fq, rowsFault ma lo hi = fq := ⟨_, rfl⟩
  obtain ⟨mr, hmr⟩ : ∃ mr, mr = orNone (rowsFault ma lo hi) (matRows ma lo hi) := ⟨_, rfl⟩
  rw [hfq] at hR
  have HFQ := Lib.hid hfq
  have HMR := Lib.hid hmr
  have HR := Lib.hid hR
  clear hfq hmr hR
  go_enter Tryd.func5, Tryd.ntmps5
  go_wp2_with fail
  refine (refMatFault_any ma _ _ (MatAt.mk (x0.alloc _))).mono ?_
  rw [F0.out]
  rintro e w1 ⟨rfl, hb1⟩
  have B0 := (Box.new w _ 25).keep hb1
  have B0c := B0.cell
  have B0f := B0.thawed
  have B0z := B0.lt
  have B0k := lt_add B0z
  have hkw1 : Below w.heap.size w w1 := (by repeat (first | exact Below.refl _ _ | refine Below.al ?_ _ | refine Below.drN ?_ _ | refine Below.drew ?_ | refine Below.st ?_ (by first | (dsimp only; omega) | (simp; omega) | simp) _ | refine Below.go ?_ hb1))
  replace x0 := x0.keep hkw1
  replace hh := hh.keep hkw1
  have hsw1 := hkw1.size
  go_wp2_with fail
  refine (matTurn_all ma _ _ (MatAt.mk x0)).mono ?_
  rw [HT.out, orNone_ok rfl]
  rintro e w2 ⟨v2, rfl, ⟨a2, n2, k2, b2, o2, rfl, x2⟩, hb2⟩
  have hkw2 : Below w1.heap.size w1 w2 := (by repeat (first | exact Below.refl _ _ | refine Below.al ?_ _ | refine Below.drN ?_ _ | refine Below.drew ?_ | refine Below.st ?_ (by first | (dsimp only; omega) | (simp; omega) | simp) _ | refine Below.go ?_ hb2))
  replace B0 := B0.keep hkw2
  replace B0c := B0.cell
  replace B0f := B0.thawed
  replace B0z := B0.lt
  replace B0k := lt_add B0z
  replace x0 := x0.keep hkw2
  replace hh := hh.keep hkw2
  have hsw2 := hkw2.size
  go_wp2_with fail
  refine (matTimes_any ma x _ _ (MatAt.mk (x0.alloc _))).mono ?_
  rw [orNone_ok F0.out, FE.out]
  rintro e w3 ⟨v3, rfl, ⟨a3, n3, k3, b3, o3, rfl, hn3, x3⟩, hb3⟩
  have Bt := (Box.new w2 _ 25).keep hb3
  have Btc := Bt.cell
  have Btf := Bt.thawed
  have Btz := Bt.lt
  have Btk := lt_add Btz
  have hkw3 : Below w2.heap.size w2 w3 := (by repeat (first | exact Below.refl _ _ | refine Below.al ?_ _ | refine Below.drN ?_ _ | refine Below.drew ?_ | refine Below.st ?_ (by first | (dsimp only; omega) | (simp; omega) | simp) _ | refine Below.go ?_ hb3))
  replace B0 := B0.keep hkw3
  replace B0c := B0.cell
  replace B0f := B0.thawed
  replace B0z := B0.lt
  replace B0k := lt_add B0z
  replace x0 := x0.keep hkw3
  replace x2 := x2.keep hkw3
  replace hh := hh.keep hkw3
  have hsw3 := hkw3.size
  go_wp2_with fail
  refine (matSums_any ma _ _ (MatAt.mk (x0.alloc _))).mono ?_
  rw [orNone_ok F0.out, FE.out]
  rintro e w4 ⟨v4, rfl, ⟨a4, n4, k4, b4, o4, rfl, hn4, x4⟩, hb4⟩
  have Bu := (Box.new w3 _ 25).keep hb4
  have Buc := Bu.cell
  have Buf := Bu.thawed
  have Buz := Bu.lt
  have Buk := lt_add Buz
  have hkw4 : Below w3.heap.size w3 w4 := (by repeat (first | exact Below.refl _ _ | refine Below.al ?_ _ | refine Below.drN ?_ _ | refine Below.drew ?_ | refine Below.st ?_ (by first | (dsimp only; omega) | (simp; omega) | simp) _ | refine Below.go ?_ hb4))
  replace B0 := B0.keep hkw4
  replace B0c := B0.cell
  replace B0f := B0.thawed
  replace B0z := B0.lt
  replace B0k := lt_add B0z
  replace Bt := Bt.keep hkw4
  replace Btc := Bt.cell
  replace Btf := Bt.thawed
  replace Btz := Bt.lt
  replace Btk := lt_add Btz
  replace x0 := x0.keep hkw4
  replace x2 := x2.keep hkw4
  replace x3 := x3.keep hkw4
  replace hh := hh.keep hkw4
  have hsw4 := hkw4.size
  go_wp2_with fail
  refine (matRows_all ma _ lo hi _ (MatAt.mk (x0.alloc _))).mono ?_
  rw [← HMR.out, HFQ.out]
  rintro e w5 ⟨v5, rfl, ⟨a5, n5, k5, b5, o5, rfl, x5⟩, hb5⟩
  have Bv := (Box.new w4 _ 25).keep hb5
  have Bvc := Bv.cell
  have Bvf := Bv.thawed
  have Bvz := Bv.lt
  have Bvk := lt_add Bvz
  have hkw5 : Below w4.heap.size w4 w5 := (by repeat (first | exact Below.refl _ _ | refine Below.al ?_ _ | refine Below.drN ?_ _ | refine Below.drew ?_ | refine Below.st ?_ (by first | (dsimp only; omega) | (simp; omega) | simp) _ | refine Below.go ?_ hb5))
  replace B0 := B0.keep hkw5
  replace B0c := B0.cell
  replace B0f := B0.thawed
  replace B0z := B0.lt
  replace B0k := lt_add B0z
  replace Bt := Bt.keep hkw5
  replace Btc := Bt.cell
  replace Btf := Bt.thawed
  replace Btz := Bt.lt
  replace Btk := lt_add Btz
  replace Bu := Bu.keep hkw5
  replace Buc := Bu.cell
  replace Buf := Bu.thawed
  replace Buz := Bu.lt
  replace Buk := lt_add Buz
  replace x0 := x0.keep hkw5
  replace x2 := x2.keep hkw5
  replace x3 := x3.keep hkw5
  replace x4 := x4.keep hkw5
  replace hh := hh.keep hkw5
  have hsw5 := hkw5.size
  have l2 := x2.lt
  have l3 := x3.lt
  have l4 := x4.lt
  have l5 := x5.lt
  go_wp2_with fail
  refine (refMatTurn_all ma _ _ (MatAt.mk (x0.alloc _ |>.alloc _ |>.alloc _)) F0.out).mono ?_
  rintro e w6 ⟨v6, rfl, ⟨a6, n6, k6, b6, o6, rfl, hn6, x6⟩, hb6⟩
  have Br := (((Box.new w5 _ 25).alloc _).alloc _).keep hb6
  have Brc := Br.cell
  have Brf := Br.thawed
  have Brz := Br.lt
  have Brk := lt_add Brz
  have Bn := ((Box.new' _ (w5.heap.size + 1) [.int .i64 0, .int .i64 0, .slice none 0 0] 25 (by simp)).alloc _).keep hb6
  have Bnc := Bn.cell
  have Bnf := Bn.thawed
  have Bnz := Bn.lt
  have Bnk := lt_add Bnz
  have Bw := (Box.new' _ (w5.heap.size + 1 + 1) [.int .i64 0, .int .i64 0, .slice none 0 0] 25 (by simp)).keep hb6
  have Bwc := Bw.cell
  have Bwf := Bw.thawed
  have Bwz := Bw.lt
  have Bwk := lt_add Bwz
  have hkw6 : Below w5.heap.size w5 w6 := (by repeat (first | exact Below.refl _ _ | refine Below.al ?_ _ | refine Below.drN ?_ _ | refine Below.drew ?_ | refine Below.st ?_ (by first | (dsimp only; omega) | (simp; omega) | simp) _ | refine Below.go ?_ hb6))
  replace B0 := B0.keep hkw6
  replace B0c := B0.cell
  replace B0f := B0.thawed
  replace B0z := B0.lt
  replace B0k := lt_add B0z
  replace Bt := Bt.keep hkw6
  replace Btc := Bt.cell
  replace Btf := Bt.thawed
  replace Btz := Bt.lt
  replace Btk := lt_add Btz
  replace Bu := Bu.keep hkw6
  replace Buc := Bu.cell
  replace Buf := Bu.thawed
  replace Buz := Bu.lt
  replace Buk := lt_add Buz
  replace Bv := Bv.keep hkw6
  replace Bvc := Bv.cell
  replace Bvf := Bv.thawed
  replace Bvz := Bv.lt
  replace Bvk := lt_add Bvz
  replace x0 := x0.keep hkw6
  replace x2 := x2.keep hkw6
  replace x3 := x3.keep hkw6
  replace x4 := x4.keep hkw6
  replace x5 := x5.keep hkw6
  replace hh := hh.keep hkw6
  have hsw6 := hkw6.size
  have qn1 : w5.heap.size+1+1 ≠ w.heap.size := by omega
  have qm1 : w.heap.size ≠ w5.heap.size+1+1 := by omega
  have qn2 : w5.heap.size+1+1 ≠ w2.heap.size := by omega
  have qm2 : w2.heap.size ≠ w5.heap.size+1+1 := by omega
  have qn3 : w5.heap.size+1+1 ≠ w3.heap.size := by omega
  have qm3 : w3.heap.size ≠ w5.heap.size+1+1 := by omega
  have qn4 : w5.heap.size+1+1 ≠ w4.heap.size := by omega
  have qm4 : w4.heap.size ≠ w5.heap.size+1+1 := by omega
  have qn5 : w5.heap.size+1+1 ≠ w5.heap.size := by omega
  have qm5 : w5.heap.size ≠ w5.heap.size+1+1 := by omega
  have qn6 : w5.heap.size+1+1 ≠ w5.heap.size+1 := by omega
  have qm6 : w5.heap.size+1 ≠ w5.heap.size+1+1 := by omega
  have hh' : Handle (((w6.setCell ⟨w5.heap.size + 1 + 1, 0, none⟩ (.int .i64 (matTurn ma).rows)).setCell ⟨w5.heap.size + 1 + 1, 1, none⟩ (.int .i64 (matTurn ma).cols)).setCell ⟨w5.heap.size + 1 + 1, 2, none⟩ (.slice a6 n6 k6)) := by
    have hg := hg0
    exact hh.farS (S := (· = w5.heap.size + 1 + 1)) ((((Far.refl (· = w5.heap.size + 1 + 1) w6).st (a := ⟨w5.heap.size + 1 + 1, 0, none⟩) (fun _ => rfl) _).st (a := ⟨w5.heap.size + 1 + 1, 1, none⟩) (fun _ => rfl) _).st (a := ⟨w5.heap.size + 1 + 1, 2, none⟩) (fun _ => rfl) _) (by omega)
  go_wp2_with fail
  refine (error_same 0 _ hh').mono ?_
  rintro e w7 ⟨rfl, hb7⟩
  have l2' := x2.lt
  have hfr : Far (· = w5.heap.size + 1 + 1) w6 w7 := ((((Far.refl (· = w5.heap.size + 1 + 1) w6).st (a := ⟨w5.heap.size + 1 + 1, 0, none⟩) (fun _ => rfl) _).st (a := ⟨w5.heap.size + 1 + 1, 1, none⟩) (fun _ => rfl) _).st (a := ⟨w5.heap.size + 1 + 1, 2, none⟩) (fun _ => rfl) _).go hb7
  replace Bw := (((Bw.set 0 _).set 1 _).set 2 _).keep hb7
  have Bwc := Bw.cell
  have Bwf := Bw.thawed
  have Bwz := Bw.lt
  replace B0 := B0.farS hfr (by omega)
  have B0c := B0.cell
  have B0f := B0.thawed
  have B0z := B0.lt
  have B0k := lt_add B0z
  replace Bt := Bt.farS hfr (by omega)
  have Btc := Bt.cell
  have Btf := Bt.thawed
  have Btz := Bt.lt
  have Btk := lt_add Btz
  replace Bu := Bu.farS hfr (by omega)
  have Buc := Bu.cell
  have Buf := Bu.thawed
  have Buz := Bu.lt
  have Buk := lt_add Buz
  replace Bv := Bv.farS hfr (by omega)
  have Bvc := Bv.cell
  have Bvf := Bv.thawed
  have Bvz := Bv.lt
  have Bvk := lt_add Bvz
  replace Br := Br.farS hfr (by omega)
  have Brc := Br.cell
  have Brf := Br.thawed
  have Brz := Br.lt
  have Brk := lt_add Brz
  replace Bn := Bn.farS hfr (by omega)
  have Bnc := Bn.cell
  have Bnf := Bn.thawed
  have Bnz := Bn.lt
  have Bnk := lt_add Bnz
  replace x0 := x0.farS hfr (by intro h e; have := l0 h; omega)
  replace x3 := x3.farS hfr (by intro h e; have := l3 h; omega)
  replace x4 := x4.farS hfr (by intro h e; have := l4 h; omega)
  replace x5 := x5.farS hfr (by intro h e; have := l5 h; omega)
  replace x2 := x2.farS hfr (by intro h e; have := l2 h; omega)
  replace x6 := (x6.set3 (B := w5.heap.size + 1 + 1) (fun h => by have := hn6 h; first | omega | (simp at this; omega)) _ _ _).keep hb7
  replace hh := hh'.keep hb7
  go_wp2_with fail
  refine (matrices_same (matTurn ma) _ _ _ (MatAt.mk x2) (MatAt.mk x6)).mono ?_
  rintro e w8 ⟨rfl, hb8⟩
  have hkw8 : Below w7.heap.size w7 w8 := (by repeat (first | exact Below.refl _ _ | refine Below.al ?_ _ | refine Below.drN ?_ _ | refine Below.drew ?_ | refine Below.st ?_ (by first | (dsimp only; omega) | (simp; omega) | simp) _ | refine Below.go ?_ hb8))
  replace B0 := B0.keep hkw8
  replace B0c := B0.cell
  replace B0f := B0.thawed
  replace B0z := B0.lt
  replace B0k := lt_add B0z
  replace Bt := Bt.keep hkw8
  replace Btc := Bt.cell
  replace Btf := Bt.thawed
  replace Btz := Bt.lt
  replace Btk := lt_add Btz
  replace Bu := Bu.keep hkw8
  replace Buc := Bu.cell
  replace Buf := Bu.thawed
  replace Buz := Bu.lt
  replace Buk := lt_add Buz
  replace Bv := Bv.keep hkw8
  replace Bvc := Bv.cell
  replace Bvf := Bv.thawed
  replace Bvz := Bv.lt
  replace Bvk := lt_add Bvz
  replace Br := Br.keep hkw8
  replace Brc := Br.cell
  replace Brf := Br.thawed
  replace Brz := Br.lt
  replace Brk := lt_add Brz
  replace Bn := Bn.keep hkw8
  replace Bnc := Bn.cell
  replace Bnf := Bn.thawed
  replace Bnz := Bn.lt
  replace Bnk := lt_add Bnz
  replace Bw := Bw.keep hkw8
  replace Bwc := Bw.cell
  replace Bwf := Bw.thawed
  replace Bwz := Bw.lt
  replace Bwk := lt_add Bwz
  replace x0 := x0.keep hkw8
  replace x3 := x3.keep hkw8
  replace x4 := x4.keep hkw8
  replace x5 := x5.keep hkw8
  replace hh := hh.keep hkw8
  have hsw8 := hkw8.size
  have hz : Below w.heap.size w w8 := (by repeat (first | exact Below.refl _ _ | refine Below.al ?_ _ | refine Below.drN ?_ _ | refine Below.drew ?_ | refine Below.st ?_ (by first | (dsimp only; omega) | (simp; omega) | simp) _ | refine Below.go ?_ hb8 | refine Below.go ?_ hb7 | refine Below.go ?_ hb6 | refine Below.go ?_ hb5 | refine Below.go ?_ hb4 | refine Below.go ?_ hb3 | refine Below.go ?_ hb2 | refine Below.go ?_ hb1))
  obtain ⟨wt, rfl⟩ : ∃ wt, wt = w8 := ⟨_, rfl⟩
  have hwt : w5.heap.size + 1 + 1 < wt.heap.size := Bwz
  go_wp2_with fail
  refine (refMatTimes_all ma x _ _ (MatAt.mk x0) F0.out).mono ?_
  rintro e w21 ⟨v21, rfl, ⟨a21, n21, k21, b21, o21, rfl, hn21, x21⟩, hb21⟩
  have hkw21 : Below wt.heap.size wt w21 := (by repeat (first | exact Below.refl _ _ | refine Below.al ?_ _ | refine Below.drN ?_ _ | refine Below.drew ?_ | refine Below.st ?_ (by first | (dsimp only; omega) | (simp; omega) | simp) _ | refine Below.go ?_ hb21))
  replace B0 := B0.keep hkw21
  replace B0c := B0.cell
  replace B0f := B0.thawed
  replace B0z := B0.lt
  replace B0k := lt_add B0z
  replace Bt := Bt.keep hkw21
  replace Btc := Bt.cell
  replace Btf := Bt.thawed
  replace Btz := Bt.lt
  replace Btk := lt_add Btz
  replace Bu := Bu.keep hkw21
  replace Buc := Bu.cell
  replace Buf := Bu.thawed
  replace Buz := Bu.lt
  replace Buk := lt_add Buz
  replace Bv := Bv.keep hkw21
  replace Bvc := Bv.cell
  replace Bvf := Bv.thawed
  replace Bvz := Bv.lt
  replace Bvk := lt_add Bvz
  replace Br := Br.keep hkw21
  replace Brc := Br.cell
  replace Brf := Br.thawed
  replace Brz := Br.lt
  replace Brk := lt_add Brz
  replace Bn := Bn.keep hkw21
  replace Bnc := Bn.cell
  replace Bnf := Bn.thawed
  replace Bnz := Bn.lt
  replace Bnk := lt_add Bnz
  replace Bw := Bw.keep hkw21
  replace Bwc := Bw.cell
  replace Bwf := Bw.thawed
  replace Bwz := Bw.lt
  replace Bwk := lt_add Bwz
  replace x0 := x0.keep hkw21
  replace x3 := x3.keep hkw21
  replace x4 := x4.keep hkw21
  replace x5 := x5.keep hkw21
  replace hh := hh.keep hkw21
  have hsw21 := hkw21.size
  go_wp2_with fail
  refine (matrices_same (matTimes ma x) _ _ _ (MatAt.set3 (B := w5.heap.size + 1 + 1) x3 (fun h => by have := l3 h; omega) _ _ _) (MatAt.set3 (B := w5.heap.size + 1 + 1) x21 (fun h => by have := hn21 h; first | omega | (simp at this; omega)) _ _ _)).mono ?_
  rintro e w22 ⟨rfl, hb22⟩
  have hfr : Far (· = w5.heap.size + 1 + 1) w21 w22 := ((((Far.refl (· = w5.heap.size + 1 + 1) w21).st (a := ⟨w5.heap.size + 1 + 1, 0, none⟩) (fun _ => rfl) _).st (a := ⟨w5.heap.size + 1 + 1, 1, none⟩) (fun _ => rfl) _).st (a := ⟨w5.heap.size + 1 + 1, 2, none⟩) (fun _ => rfl) _).go hb22
  replace Bw := (((Bw.set 0 _).set 1 _).set 2 _).keep hb22
  have Bwc := Bw.cell
  have Bwf := Bw.thawed
  have Bwz := Bw.lt
  replace B0 := B0.farS hfr (by omega)
  have B0c := B0.cell
  have B0f := B0.thawed
  have B0z := B0.lt
  have B0k := lt_add B0z
  replace Bt := Bt.farS hfr (by omega)
  have Btc := Bt.cell
  have Btf := Bt.thawed
  have Btz := Bt.lt
  have Btk := lt_add Btz
  replace Bu := Bu.farS hfr (by omega)
  have Buc := Bu.cell
  have Buf := Bu.thawed
  have Buz := Bu.lt
  have Buk := lt_add Buz
  replace Bv := Bv.farS hfr (by omega)
  have Bvc := Bv.cell
  have Bvf := Bv.thawed
  have Bvz := Bv.lt
  have Bvk := lt_add Bvz
  replace Br := Br.farS hfr (by omega)
  have Brc := Br.cell
  have Brf := Br.thawed
  have Brz := Br.lt
  have Brk := lt_add Brz
  replace Bn := Bn.farS hfr (by omega)
  have Bnc := Bn.cell
  have Bnf := Bn.thawed
  have Bnz := Bn.lt
  have Bnk := lt_add Bnz
  replace x0 := x0.farS hfr (by intro h e; have := l0 h; omega)
  replace x3 := x3.farS hfr (by intro h e; have := l3 h; omega)
  replace x4 := x4.farS hfr (by intro h e; have := l4 h; omega)
  replace x5 := x5.farS hfr (by intro h e; have := l5 h; omega)
  replace hh := hh.farS hfr (by omega)
  clear hfr
  have hwt2 : w5.heap.size + 1 + 1 < w22.heap.size := Bwz
  go_wp2_with fail
  refine (refMatSums_all ma _ _ (MatAt.mk x0) F0.out).mono ?_
  rintro e w23 ⟨v23, rfl, ⟨a23, n23, k23, b23, o23, rfl, hn23, x23⟩, hb23⟩
  have hkw23 : Below w22.heap.size w22 w23 := (by repeat (first | exact Below.refl _ _ | refine Below.al ?_ _ | refine Below.drN ?_ _ | refine Below.drew ?_ | refine Below.st ?_ (by first | (dsimp only; omega) | (simp; omega) | simp) _ | refine Below.go ?_ hb23))
  replace B0 := B0.keep hkw23
  replace B0c := B0.cell
  replace B0f := B0.thawed
  replace B0z := B0.lt
  replace B0k := lt_add B0z
  replace Bt := Bt.keep hkw23
  replace Btc := Bt.cell
  replace Btf := Bt.thawed
  replace Btz := Bt.lt
  replace Btk := lt_add Btz
  replace Bu := Bu.keep hkw23
  replace Buc := Bu.cell
  replace Buf := Bu.thawed
  replace Buz := Bu.lt
  replace Buk := lt_add Buz
  replace Bv := Bv.keep hkw23
  replace Bvc := Bv.cell
  replace Bvf := Bv.thawed
  replace Bvz := Bv.lt
  replace Bvk := lt_add Bvz
  replace Br := Br.keep hkw23
  replace Brc := Br.cell
  replace Brf := Br.thawed
  replace Brz := Br.lt
  replace Brk := lt_add Brz
  replace Bn := Bn.keep hkw23
  replace Bnc := Bn.cell
  replace Bnf := Bn.thawed
  replace Bnz := Bn.lt
  replace Bnk := lt_add Bnz
  replace Bw := Bw.keep hkw23
  replace Bwc := Bw.cell
  replace Bwf := Bw.thawed
  replace Bwz := Bw.lt
  replace Bwk := lt_add Bwz
  replace x0 := x0.keep hkw23
  replace x3 := x3.keep hkw23
  replace x4 := x4.keep hkw23
  replace x5 := x5.keep hkw23
  replace hh := hh.keep hkw23
  have hsw23 := hkw23.size
  go_wp2_with fail
  refine (matrices_same (matSums ma) _ _ _ (MatAt.set3 (B := w5.heap.size + 1 + 1) x4 (fun h => by have := l4 h; omega) _ _ _) (MatAt.set3 (B := w5.heap.size + 1 + 1) x23 (fun h => by have := hn23 h; first | omega | (simp at this; omega)) _ _ _)).mono ?_
  rintro e w24 ⟨rfl, hb24⟩
  have hfr : Far (· = w5.heap.size + 1 + 1) w23 w24 := ((((Far.refl (· = w5.heap.size + 1 + 1) w23).st (a := ⟨w5.heap.size + 1 + 1, 0, none⟩) (fun _ => rfl) _).st (a := ⟨w5.heap.size + 1 + 1, 1, none⟩) (fun _ => rfl) _).st (a := ⟨w5.heap.size + 1 + 1, 2, none⟩) (fun _ => rfl) _).go hb24
  replace Bw := (((Bw.set 0 _).set 1 _).set 2 _).keep hb24
  have Bwc := Bw.cell
  have Bwf := Bw.thawed
  have Bwz := Bw.lt
  replace B0 := B0.farS hfr (by omega)
  have B0c := B0.cell
  have B0f := B0.thawed
  have B0z := B0.lt
  have B0k := lt_add B0z
  replace Bt := Bt.farS hfr (by omega)
  have Btc := Bt.cell
  have Btf := Bt.thawed
  have Btz := Bt.lt
  have Btk := lt_add Btz
  replace Bu := Bu.farS hfr (by omega)
  have Buc := Bu.cell
  have Buf := Bu.thawed
  have Buz := Bu.lt
  have Buk := lt_add Buz
  replace Bv := Bv.farS hfr (by omega)
  have Bvc := Bv.cell
  have Bvf := Bv.thawed
  have Bvz := Bv.lt
  have Bvk := lt_add Bvz
  replace Br := Br.farS hfr (by omega)
  have Brc := Br.cell
  have Brf := Br.thawed
  have Brz := Br.lt
  have Brk := lt_add Brz
  replace Bn := Bn.farS hfr (by omega)
  have Bnc := Bn.cell
  have Bnf := Bn.thawed
  have Bnz := Bn.lt
  have Bnk := lt_add Bnz
  replace x0 := x0.farS hfr (by intro h e; have := l0 h; omega)
  replace x3 := x3.farS hfr (by intro h e; have := l3 h; omega)
  replace x4 := x4.farS hfr (by intro h e; have := l4 h; omega)
  replace x5 := x5.farS hfr (by intro h e; have := l5 h; omega)
  replace hh := hh.farS hfr (by omega)
  clear hfr
  have hz24 : Below w.heap.size w w24 := (by repeat (first | exact hz | exact Below.refl _ _ | refine Below.al ?_ _ | refine Below.drN ?_ _ | refine Below.drew ?_ | refine Below.st ?_ (by first | (dsimp only; omega) | (simp; omega) | simp) _ | refine Below.go ?_ hb24 | refine Below.go ?_ hb23 | refine Below.go ?_ hb22 | refine Below.go ?_ hb21))
  by_cases q2 : lo < 0
  · have HQ : Hid (fq = 1) := Lib.hid (by rw [HR.out, if_pos (Or.inl q2)])
    go_wp2_with fail
    refine (error_eq fq 1 _ hh HQ.out).mono ?_
    rintro e w25 ⟨rfl, hb25⟩
    have hkw25 : Below w24.heap.size w24 w25 := (by repeat (first | exact Below.refl _ _ | refine Below.al ?_ _ | refine Below.drN ?_ _ | refine Below.drew ?_ | refine Below.st ?_ (by first | (dsimp only; omega) | (simp; omega) | simp) _ | refine Below.go ?_ hb25))
    replace Br := Br.keep hkw25
    replace Brc := Br.cell
    replace Brf := Br.thawed
    replace Brz := Br.lt
    replace Brk := lt_add Brz
    replace Bn := Bn.keep hkw25
    replace Bnc := Bn.cell
    replace Bnf := Bn.thawed
    replace Bnz := Bn.lt
    replace Bnk := lt_add Bnz
    replace x5 := x5.keep hkw25
    have hsw25 := hkw25.size
    go_wp2_with fail
    refine (matrices_eq mr Mat.none _ _ _ (MatAt.mk x5) (none_at _) (by rw [HMR.out, HFQ.out, orNone_bad (by rw [HQ.out]; decide)])).mono ?_
    rintro e w26 ⟨rfl, hb26⟩
    go_wp2
    go_ret
    exact ⟨rfl, (by repeat (first | exact hz24 | exact Below.refl _ _ | refine Below.al ?_ _ | refine Below.drN ?_ _ | refine Below.drew ?_ | refine Below.st ?_ (by first | (dsimp only; omega) | (simp; omega) | simp) _ | refine Below.go ?_ hb26 | refine Below.go ?_ hb25))⟩
  · by_cases q3 : hi < lo
    · have HQ : Hid (fq = 1) := Lib.hid (by rw [HR.out, if_pos (Or.inr (Or.inl q3))])
      go_wp2_with fail
      refine (error_eq fq 1 _ hh HQ.out).mono ?_
      rintro e w25 ⟨rfl, hb25⟩
      have hkw25 : Below w24.heap.size w24 w25 := (by repeat (first | exact Below.refl _ _ | refine Below.al ?_ _ | refine Below.drN ?_ _ | refine Below.drew ?_ | refine Below.st ?_ (by first | (dsimp only; omega) | (simp; omega) | simp) _ | refine Below.go ?_ hb25))
      replace Br := Br.keep hkw25
      replace Brc := Br.cell
      replace Brf := Br.thawed
      replace Brz := Br.lt
      replace Brk := lt_add Brz
      replace Bn := Bn.keep hkw25
      replace Bnc := Bn.cell
      replace Bnf := Bn.thawed
      replace Bnz := Bn.lt
      replace Bnk := lt_add Bnz
      replace x5 := x5.keep hkw25
      have hsw25 := hkw25.size
      go_wp2_with fail
      refine (matrices_eq mr Mat.none _ _ _ (MatAt.mk x5) (none_at _) (by rw [HMR.out, HFQ.out, orNone_bad (by rw [HQ.out]; decide)])).mono ?_
      rintro e w26 ⟨rfl, hb26⟩
      go_wp2
      go_ret
      exact ⟨rfl, (by repeat (first | exact hz24 | exact Below.refl _ _ | refine Below.al ?_ _ | refine Below.drN ?_ _ | refine Below.drew ?_ | refine Below.st ?_ (by first | (dsimp only; omega) | (simp; omega) | simp) _ | refine Below.go ?_ hb26 | refine Below.go ?_ hb25))⟩
    · by_cases q4 : ma.rows < hi
      · have HQ : Hid (fq = 1) := Lib.hid (by rw [HR.out, if_pos (Or.inr (Or.inr q4))])
        go_wp2_with fail
        refine (error_eq fq 1 _ hh HQ.out).mono ?_
        rintro e w25 ⟨rfl, hb25⟩
        have hkw25 : Below w24.heap.size w24 w25 := (by repeat (first | exact Below.refl _ _ | refine Below.al ?_ _ | refine Below.drN ?_ _ | refine Below.drew ?_ | refine Below.st ?_ (by first | (dsimp only; omega) | (simp; omega) | simp) _ | refine Below.go ?_ hb25))
        replace Br := Br.keep hkw25
        replace Brc := Br.cell
        replace Brf := Br.thawed
        replace Brz := Br.lt
        replace Brk := lt_add Brz
        replace Bn := Bn.keep hkw25
        replace Bnc := Bn.cell
        replace Bnf := Bn.thawed
        replace Bnz := Bn.lt
        replace Bnk := lt_add Bnz
        replace x5 := x5.keep hkw25
        have hsw25 := hkw25.size
        go_wp2_with fail
        refine (matrices_eq mr Mat.none _ _ _ (MatAt.mk x5) (none_at _) (by rw [HMR.out, HFQ.out, orNone_bad (by rw [HQ.out]; decide)])).mono ?_
        rintro e w26 ⟨rfl, hb26⟩
        go_wp2
        go_ret
        exact ⟨rfl, (by repeat (first | exact hz24 | exact Below.refl _ _ | refine Below.al ?_ _ | refine Below.drN ?_ _ | refine Below.drew ?_ | refine Below.st ?_ (by first | (dsimp only; omega) | (simp; omega) | simp) _ | refine Below.go ?_ hb26 | refine Below.go ?_ hb25))⟩
      · have HQ : Hid (fq = 0) := Lib.hid (by rw [HR.out, if_neg (by omega)])
        have hE : errV fq = .nilIface := errV_nil HQ.out
        have hwt4 : w5.heap.size + 1 + 1 < w24.heap.size := Bwz
        go_wp2_with fail
        refine (refMatRows_all ma lo hi _ _ (MatAt.mk x0) (by rw [HFQ.out, HQ.out])).mono ?_
        rintro e w25 ⟨v25, rfl, ⟨a25, n25, k25, b25, o25, rfl, hn25, x25⟩, hb25⟩
        have hkw25 : Below w24.heap.size w24 w25 := (by repeat (first | exact Below.refl _ _ | refine Below.al ?_ _ | refine Below.drN ?_ _ | refine Below.drew ?_ | refine Below.st ?_ (by first | (dsimp only; omega) | (simp; omega) | simp) _ | refine Below.go ?_ hb25))
        replace Br := Br.keep hkw25
        replace Brc := Br.cell
        replace Brf := Br.thawed
        replace Brz := Br.lt
        replace Brk := lt_add Brz
        replace Bw := Bw.keep hkw25
        replace Bwc := Bw.cell
        replace Bwf := Bw.thawed
        replace Bwz := Bw.lt
        replace Bwk := lt_add Bwz
        replace x5 := x5.keep hkw25
        have hsw25 := hkw25.size
        go_wp2_with fail
        refine (matrices_eq mr (matRows ma lo hi) _ _ _ (MatAt.set3 (B := w5.heap.size + 1 + 1) x5 (fun h => by have := l5 h; omega) _ _ _) (MatAt.set3 (B := w5.heap.size + 1 + 1) x25 (fun h => by have := hn25 h; first | omega | (simp at this; omega)) _ _ _) (by rw [HMR.out, HFQ.out, orNone_ok HQ.out])).mono ?_
        rintro e w26 ⟨rfl, hb26⟩
        go_wp2
        go_ret
        exact ⟨rfl, (by repeat (first | exact hz24 | exact Below.refl _ _ | refine Below.al ?_ _ | refine Below.drN ?_ _ | refine Below.drew ?_ | refine Below.st ?_ (by first | (dsimp only; omega) | (simp; omega) | simp) _ | refine Below.go ?_ hb26 | refine Below.go ?_ hb25))⟩
set_option maxRecDepth 100000 in
set_option maxHeartbeats 4000000 in
theorem walk2b (fa : ma.fault = 0) (q1 : 12 < ma.rows) (HT : Hid (turnFault ma = 1)) : Calls Tryd.prog 5 #[.agg #[.int .i64 ma.rows, .int .i64 ma.cols, .slice a0 n0 k0], .int .i64 x, .int .i64 lo, .int .i64 hi] w fun e w' => e = .returned (.bool true) ∧ Below w.heap.size w w' := by
  have F0 := Lib.hid fa
  have FE := Lib.hid (errV_nil fa)
  have hR : rowsFault ma lo hi = if lo < 0 ∨ hi < lo ∨ ma.rows < hi then 1 else 0 := if_pos fa
  have hg0 := hh.lt
  have l0 := x0.lt
  clear fa
  obtain ⟨fq, hfq⟩ : ∃ fq, rowsFault ma lo hi = fq := ⟨_, rfl⟩
  obtain ⟨mr, hmr⟩ : ∃ mr, mr = orNone (rowsFault ma lo hi) (matRows ma lo hi) := ⟨_, rfl⟩
  rw [hfq] at hR
  have HFQ := Lib.hid hfq
  have HMR := Lib.hid hmr
  have HR := Lib.hid hR
  clear hfq hmr hR
  go_enter Tryd.func5, Tryd.ntmps5
  go_wp2_with fail
  refine (refMatFault_any ma _ _ (MatAt.mk (x0.alloc _))).mono ?_
  rw [F0.out]
  rintro e w1 ⟨rfl, hb1⟩
  have B0 := (Box.new w _ 25).keep hb1
  have B0c := B0.cell
  have B0f := B0.thawed
  have B0z := B0.lt
  have B0k := lt_add B0z
  have hkw1 : Below w.heap.size w w1 := (by repeat (first | exact Below.refl _ _ | refine Below.al ?_ _ | refine Below.drN ?_ _ | refine Below.drew ?_ | refine Below.st ?_ (by first | (dsimp only; omega) | (simp; omega) | simp) _ | refine Below.go ?_ hb1))
  replace x0 := x0.keep hkw1
  replace hh := hh.keep hkw1
  have hsw1 := hkw1.size
  go_wp2_with fail
  refine (matTurn_all ma _ _ (MatAt.mk x0)).mono ?_
  rw [HT.out, orNone_bad (by decide)]
  rintro e w2 ⟨v2, rfl, ⟨a2, n2, k2, b2, o2, rfl, x2⟩, hb2⟩
  have hkw2 : Below w1.heap.size w1 w2 := (by repeat (first | exact Below.refl _ _ | refine Below.al ?_ _ | refine Below.drN ?_ _ | refine Below.drew ?_ | refine Below.st ?_ (by first | (dsimp only; omega) | (simp; omega) | simp) _ | refine Below.go ?_ hb2))
  replace B0 := B0.keep hkw2
  replace B0c := B0.cell
  replace B0f := B0.thawed
  replace B0z := B0.lt
  replace B0k := lt_add B0z
  replace x0 := x0.keep hkw2
  replace hh := hh.keep hkw2
  have hsw2 := hkw2.size
  go_wp2_with fail
  refine (matTimes_any ma x _ _ (MatAt.mk (x0.alloc _))).mono ?_
  rw [orNone_ok F0.out, FE.out]
  rintro e w3 ⟨v3, rfl, ⟨a3, n3, k3, b3, o3, rfl, hn3, x3⟩, hb3⟩
  have Bt := (Box.new w2 _ 25).keep hb3
  have Btc := Bt.cell
  have Btf := Bt.thawed
  have Btz := Bt.lt
  have Btk := lt_add Btz
  have hkw3 : Below w2.heap.size w2 w3 := (by repeat (first | exact Below.refl _ _ | refine Below.al ?_ _ | refine Below.drN ?_ _ | refine Below.drew ?_ | refine Below.st ?_ (by first | (dsimp only; omega) | (simp; omega) | simp) _ | refine Below.go ?_ hb3))
  replace B0 := B0.keep hkw3
  replace B0c := B0.cell
  replace B0f := B0.thawed
  replace B0z := B0.lt
  replace B0k := lt_add B0z
  replace x0 := x0.keep hkw3
  replace x2 := x2.keep hkw3
  replace hh := hh.keep hkw3
  have hsw3 := hkw3.size
  go_wp2_with fail
  refine (matSums_any ma _ _ (MatAt.mk (x0.alloc _))).mono ?_
  rw [orNone_ok F0.out, FE.out]
  rintro e w4 ⟨v4, rfl, ⟨a4, n4, k4, b4, o4, rfl, hn4, x4⟩, hb4⟩
  have Bu := (Box.new w3 _ 25).keep hb4
  have Buc := Bu.cell
  have Buf := Bu.thawed
  have Buz := Bu.lt
  have Buk := lt_add Buz
  have hkw4 : Below w3.heap.size w3 w4 := (by repeat (first | exact Below.refl _ _ | refine Below.al ?_ _ | refine Below.drN ?_ _ | refine Below.drew ?_ | refine Below.st ?_ (by first | (dsimp only; omega) | (simp; omega) | simp) _ | refine Below.go ?_ hb4))
  replace B0 := B0.keep hkw4
  replace B0c := B0.cell
  replace B0f := B0.thawed
  replace B0z := B0.lt
  replace B0k := lt_add B0z
  replace Bt := Bt.keep hkw4
  replace Btc := Bt.cell
  replace Btf := Bt.thawed
  replace Btz := Bt.lt
  replace Btk := lt_add Btz
  replace x0 := x0.keep hkw4
  replace x2 := x2.keep hkw4
  replace x3 := x3.keep hkw4
  replace hh := hh.keep hkw4
  have hsw4 := hkw4.size
  go_wp2_with fail
  refine (matRows_all ma _ lo hi _ (MatAt.mk (x0.alloc _))).mono ?_
  rw [← HMR.out, HFQ.out]
  rintro e w5 ⟨v5, rfl, ⟨a5, n5, k5, b5, o5, rfl, x5⟩, hb5⟩
  have Bv := (Box.new w4 _ 25).keep hb5
  have Bvc := Bv.cell
  have Bvf := Bv.thawed
  have Bvz := Bv.lt
  have Bvk := lt_add Bvz
  have hkw5 : Below w4.heap.size w4 w5 := (by repeat (first | exact Below.refl _ _ | refine Below.al ?_ _ | refine Below.drN ?_ _ | refine Below.drew ?_ | refine Below.st ?_ (by first | (dsimp only; omega) | (simp; omega) | simp) _ | refine Below.go ?_ hb5))
  replace B0 := B0.keep hkw5
  replace B0c := B0.cell
  replace B0f := B0.thawed
  replace B0z := B0.lt
  replace B0k := lt_add B0z
  replace Bt := Bt.keep hkw5
  replace Btc := Bt.cell
  replace Btf := Bt.thawed
  replace Btz := Bt.lt
  replace Btk := lt_add Btz
  replace Bu := Bu.keep hkw5
  replace Buc := Bu.cell
  replace Buf := Bu.thawed
  replace Buz := Bu.lt
  replace Buk := lt_add Buz
  replace x0 := x0.keep hkw5
  replace x2 := x2.keep hkw5
  replace x3 := x3.keep hkw5
  replace x4 := x4.keep hkw5
  replace hh := hh.keep hkw5
  have hsw5 := hkw5.size
  have l2 := x2.lt
  have l3 := x3.lt
  have l4 := x4.lt
  have l5 := x5.lt
  go_wp2_with fail
  refine (error_same 1 _ (((hh.alloc _).alloc _).alloc _)).mono ?_
  rintro e w6 ⟨rfl, hb6⟩
  have Br := (((Box.new w5 _ 25).alloc _).alloc _).keep hb6
  have Brc := Br.cell
  have Brf := Br.thawed
  have Brz := Br.lt
  have Brk := lt_add Brz
  have Bn := ((Box.new' _ (w5.heap.size + 1) [.int .i64 0, .int .i64 0, .slice none 0 0] 25 (by simp)).alloc _).keep hb6
  have Bnc := Bn.cell
  have Bnf := Bn.thawed
  have Bnz := Bn.lt
  have Bnk := lt_add Bnz
  have Bw := (Box.new' _ (w5.heap.size + 1 + 1) [.int .i64 0, .int .i64 0, .slice none 0 0] 25 (by simp)).keep hb6
  have Bwc := Bw.cell
  have Bwf := Bw.thawed
  have Bwz := Bw.lt
  have Bwk := lt_add Bwz
  have hkw6 : Below w5.heap.size w5 w6 := (by repeat (first | exact Below.refl _ _ | refine Below.al ?_ _ | refine Below.drN ?_ _ | refine Below.drew ?_ | refine Below.st ?_ (by first | (dsimp only; omega) | (simp; omega) | simp) _ | refine Below.go ?_ hb6))
  replace B0 := B0.keep hkw6
  replace B0c := B0.cell
  replace B0f := B0.thawed
  replace B0z := B0.lt
  replace B0k := lt_add B0z
  replace Bt := Bt.keep hkw6
  replace Btc := Bt.cell
  replace Btf := Bt.thawed
  replace Btz := Bt.lt
  replace Btk := lt_add Btz
  replace Bu := Bu.keep hkw6
  replace Buc := Bu.cell
  replace Buf := Bu.thawed
  replace Buz := Bu.lt
  replace Buk := lt_add Buz
  replace Bv := Bv.keep hkw6
  replace Bvc := Bv.cell
  replace Bvf := Bv.thawed
  replace Bvz := Bv.lt
  replace Bvk := lt_add Bvz
  replace x0 := x0.keep hkw6
  replace x2 := x2.keep hkw6
  replace x3 := x3.keep hkw6
  replace x4 := x4.keep hkw6
  replace x5 := x5.keep hkw6
  replace hh := hh.keep hkw6
  have hsw6 := hkw6.size
  have qn7 : w5.heap.size+1+1 ≠ w.heap.size := by omega
  have qm7 : w.heap.size ≠ w5.heap.size+1+1 := by omega
  have qn8 : w5.heap.size+1+1 ≠ w2.heap.size := by omega
  have qm8 : w2.heap.size ≠ w5.heap.size+1+1 := by omega
  have qn9 : w5.heap.size+1+1 ≠ w3.heap.size := by omega
  have qm9 : w3.heap.size ≠ w5.heap.size+1+1 := by omega
  have qn10 : w5.heap.size+1+1 ≠ w4.heap.size := by omega
  have qm10 : w4.heap.size ≠ w5.heap.size+1+1 := by omega
  have qn11 : w5.heap.size+1+1 ≠ w5.heap.size := by omega
  have qm11 : w5.heap.size ≠ w5.heap.size+1+1 := by omega
  have qn12 : w5.heap.size+1+1 ≠ w5.heap.size+1 := by omega
  have qm12 : w5.heap.size+1 ≠ w5.heap.size+1+1 := by omega
  go_wp2_with fail
  refine (matrices_same Mat.none _ _ _ (MatAt.mk x2) (none_at _)).mono ?_
  rintro e w7 ⟨rfl, hb7⟩
  have hkw7 : Below w6.heap.size w6 w7 := (by repeat (first | exact Below.refl _ _ | refine Below.al ?_ _ | refine Below.drN ?_ _ | refine Below.drew ?_ | refine Below.st ?_ (by first | (dsimp only; omega) | (simp; omega) | simp) _ | refine Below.go ?_ hb7))
  replace B0 := B0.keep hkw7
  replace B0c := B0.cell
  replace B0f := B0.thawed
  replace B0z := B0.lt
  replace B0k := lt_add B0z
  replace Bt := Bt.keep hkw7
  replace Btc := Bt.cell
  replace Btf := Bt.thawed
  replace Btz := Bt.lt
  replace Btk := lt_add Btz
  replace Bu := Bu.keep hkw7
  replace Buc := Bu.cell
  replace Buf := Bu.thawed
  replace Buz := Bu.lt
  replace Buk := lt_add Buz
  replace Bv := Bv.keep hkw7
  replace Bvc := Bv.cell
  replace Bvf := Bv.thawed
  replace Bvz := Bv.lt
  replace Bvk := lt_add Bvz
  replace Br := Br.keep hkw7
  replace Brc := Br.cell
  replace Brf := Br.thawed
  replace Brz := Br.lt
  replace Brk := lt_add Brz
  replace Bn := Bn.keep hkw7
  replace Bnc := Bn.cell
  replace Bnf := Bn.thawed
  replace Bnz := Bn.lt
  replace Bnk := lt_add Bnz
  replace Bw := Bw.keep hkw7
  replace Bwc := Bw.cell
  replace Bwf := Bw.thawed
  replace Bwz := Bw.lt
  replace Bwk := lt_add Bwz
  replace x0 := x0.keep hkw7
  replace x3 := x3.keep hkw7
  replace x4 := x4.keep hkw7
  replace x5 := x5.keep hkw7
  replace hh := hh.keep hkw7
  have hsw7 := hkw7.size
  have hz : Below w.heap.size w w7 := (by repeat (first | exact Below.refl _ _ | refine Below.al ?_ _ | refine Below.drN ?_ _ | refine Below.drew ?_ | refine Below.st ?_ (by first | (dsimp only; omega) | (simp; omega) | simp) _ | refine Below.go ?_ hb7 | refine Below.go ?_ hb6 | refine Below.go ?_ hb5 | refine Below.go ?_ hb4 | refine Below.go ?_ hb3 | refine Below.go ?_ hb2 | refine Below.go ?_ hb1))
  obtain ⟨wt, rfl⟩ : ∃ wt, wt = w7 := ⟨_, rfl⟩
  have hwt : w5.heap.size + 1 + 1 < wt.heap.size := Bwz
  go_wp2_with fail
  refine (refMatTimes_all ma x _ _ (MatAt.mk x0) F0.out).mono ?_
  rintro e w21 ⟨v21, rfl, ⟨a21, n21, k21, b21, o21, rfl, hn21, x21⟩, hb21⟩
  have hkw21 : Below wt.heap.size wt w21 := (by repeat (first | exact Below.refl _ _ | refine Below.al ?_ _ | refine Below.drN ?_ _ | refine Below.drew ?_ | refine Below.st ?_ (by first | (dsimp only; omega) | (simp; omega) | simp) _ | refine Below.go ?_ hb21))
  replace B0 := B0.keep hkw21
  replace B0c := B0.cell
  replace B0f := B0.thawed
  replace B0z := B0.lt
  replace B0k := lt_add B0z
  replace Bt := Bt.keep hkw21
  replace Btc := Bt.cell
  replace Btf := Bt.thawed
  replace Btz := Bt.lt
  replace Btk := lt_add Btz
  replace Bu := Bu.keep hkw21
  replace Buc := Bu.cell
  replace Buf := Bu.thawed
  replace Buz := Bu.lt
  replace Buk := lt_add Buz
  replace Bv := Bv.keep hkw21
  replace Bvc := Bv.cell
  replace Bvf := Bv.thawed
  replace Bvz := Bv.lt
  replace Bvk := lt_add Bvz
  replace Br := Br.keep hkw21
  replace Brc := Br.cell
  replace Brf := Br.thawed
  replace Brz := Br.lt
  replace Brk := lt_add Brz
  replace Bn := Bn.keep hkw21
  replace Bnc := Bn.cell
  replace Bnf := Bn.thawed
  replace Bnz := Bn.lt
  replace Bnk := lt_add Bnz
  replace Bw := Bw.keep hkw21
  replace Bwc := Bw.cell
  replace Bwf := Bw.thawed
  replace Bwz := Bw.lt
  replace Bwk := lt_add Bwz
  replace x0 := x0.keep hkw21
  replace x3 := x3.keep hkw21
  replace x4 := x4.keep hkw21
  replace x5 := x5.keep hkw21
  replace hh := hh.keep hkw21
  have hsw21 := hkw21.size
  go_wp2_with fail
  refine (matrices_same (matTimes ma x) _ _ _ (MatAt.set3 (B := w5.heap.size + 1 + 1) x3 (fun h => by have := l3 h; omega) _ _ _) (MatAt.set3 (B := w5.heap.size + 1 + 1) x21 (fun h => by have := hn21 h; first | omega | (simp at this; omega)) _ _ _)).mono ?_
  rintro e w22 ⟨rfl, hb22⟩
  have hfr : Far (· = w5.heap.size + 1 + 1) w21 w22 := ((((Far.refl (· = w5.heap.size + 1 + 1) w21).st (a := ⟨w5.heap.size + 1 + 1, 0, none⟩) (fun _ => rfl) _).st (a := ⟨w5.heap.size + 1 + 1, 1, none⟩) (fun _ => rfl) _).st (a := ⟨w5.heap.size + 1 + 1, 2, none⟩) (fun _ => rfl) _).go hb22
  replace Bw := (((Bw.set 0 _).set 1 _).set 2 _).keep hb22
  have Bwc := Bw.cell
  have Bwf := Bw.thawed
  have Bwz := Bw.lt
  replace B0 := B0.farS hfr (by omega)
  have B0c := B0.cell
  have B0f := B0.thawed
  have B0z := B0.lt
  have B0k := lt_add B0z
  replace Bt := Bt.farS hfr (by omega)
  have Btc := Bt.cell
  have Btf := Bt.thawed
  have Btz := Bt.lt
  have Btk := lt_add Btz
  replace Bu := Bu.farS hfr (by omega)
  have Buc := Bu.cell
  have Buf := Bu.thawed
  have Buz := Bu.lt
  have Buk := lt_add Buz
  replace Bv := Bv.farS hfr (by omega)
  have Bvc := Bv.cell
  have Bvf := Bv.thawed
  have Bvz := Bv.lt
  have Bvk := lt_add Bvz
  replace Br := Br.farS hfr (by omega)
  have Brc := Br.cell
  have Brf := Br.thawed
  have Brz := Br.lt
  have Brk := lt_add Brz
  replace Bn := Bn.farS hfr (by omega)
  have Bnc := Bn.cell
  have Bnf := Bn.thawed
  have Bnz := Bn.lt
  have Bnk := lt_add Bnz
  replace x0 := x0.farS hfr (by intro h e; have := l0 h; omega)
  replace x3 := x3.farS hfr (by intro h e; have := l3 h; omega)
  replace x4 := x4.farS hfr (by intro h e; have := l4 h; omega)
  replace x5 := x5.farS hfr (by intro h e; have := l5 h; omega)
  replace hh := hh.farS hfr (by omega)
  clear hfr
  have hwt2 : w5.heap.size + 1 + 1 < w22.heap.size := Bwz
  go_wp2_with fail
  refine (refMatSums_all ma _ _ (MatAt.mk x0) F0.out).mono ?_
  rintro e w23 ⟨v23, rfl, ⟨a23, n23, k23, b23, o23, rfl, hn23, x23⟩, hb23⟩
  have hkw23 : Below w22.heap.size w22 w23 := (by repeat (first | exact Below.refl _ _ | refine Below.al ?_ _ | refine Below.drN ?_ _ | refine Below.drew ?_ | refine Below.st ?_ (by first | (dsimp only; omega) | (simp; omega) | simp) _ | refine Below.go ?_ hb23))
  replace B0 := B0.keep hkw23
  replace B0c := B0.cell
  replace B0f := B0.thawed
  replace B0z := B0.lt
  replace B0k := lt_add B0z
  replace Bt := Bt.keep hkw23
  replace Btc := Bt.cell
  replace Btf := Bt.thawed
  replace Btz := Bt.lt
  replace Btk := lt_add Btz
  replace Bu := Bu.keep hkw23
  replace Buc := Bu.cell
  replace Buf := Bu.thawed
  replace Buz := Bu.lt
  replace Buk := lt_add Buz
  replace Bv := Bv.keep hkw23
  replace Bvc := Bv.cell
  replace Bvf := Bv.thawed
  replace Bvz := Bv.lt
  replace Bvk := lt_add Bvz
  replace Br := Br.keep hkw23
  replace Brc := Br.cell
  replace Brf := Br.thawed
  replace Brz := Br.lt
  replace Brk := lt_add Brz
  replace Bn := Bn.keep hkw23
  replace Bnc := Bn.cell
  replace Bnf := Bn.thawed
  replace Bnz := Bn.lt
  replace Bnk := lt_add Bnz
  replace Bw := Bw.keep hkw23
  replace Bwc := Bw.cell
  replace Bwf := Bw.thawed
  replace Bwz := Bw.lt
  replace Bwk := lt_add Bwz
  replace x0 := x0.keep hkw23
  replace x3 := x3.keep hkw23
  replace x4 := x4.keep hkw23
  replace x5 := x5.keep hkw23
  replace hh := hh.keep hkw23
  have hsw23 := hkw23.size
  go_wp2_with fail
  refine (matrices_same (matSums ma) _ _ _ (MatAt.set3 (B := w5.heap.size + 1 + 1) x4 (fun h => by have := l4 h; omega) _ _ _) (MatAt.set3 (B := w5.heap.size + 1 + 1) x23 (fun h => by have := hn23 h; first | omega | (simp at this; omega)) _ _ _)).mono ?_
  rintro e w24 ⟨rfl, hb24⟩
  have hfr : Far (· = w5.heap.size + 1 + 1) w23 w24 := ((((Far.refl (· = w5.heap.size + 1 + 1) w23).st (a := ⟨w5.heap.size + 1 + 1, 0, none⟩) (fun _ => rfl) _).st (a := ⟨w5.heap.size + 1 + 1, 1, none⟩) (fun _ => rfl) _).st (a := ⟨w5.heap.size + 1 + 1, 2, none⟩) (fun _ => rfl) _).go hb24
  replace Bw := (((Bw.set 0 _).set 1 _).set 2 _).keep hb24
  have Bwc := Bw.cell
  have Bwf := Bw.thawed
  have Bwz := Bw.lt
  replace B0 := B0.farS hfr (by omega)
  have B0c := B0.cell
  have B0f := B0.thawed
  have B0z := B0.lt
  have B0k := lt_add B0z
  replace Bt := Bt.farS hfr (by omega)
  have Btc := Bt.cell
  have Btf := Bt.thawed
  have Btz := Bt.lt
  have Btk := lt_add Btz
  replace Bu := Bu.farS hfr (by omega)
  have Buc := Bu.cell
  have Buf := Bu.thawed
  have Buz := Bu.lt
  have Buk := lt_add Buz
  replace Bv := Bv.farS hfr (by omega)
  have Bvc := Bv.cell
  have Bvf := Bv.thawed
  have Bvz := Bv.lt
  have Bvk := lt_add Bvz
  replace Br := Br.farS hfr (by omega)
  have Brc := Br.cell
  have Brf := Br.thawed
  have Brz := Br.lt
  have Brk := lt_add Brz
  replace Bn := Bn.farS hfr (by omega)
  have Bnc := Bn.cell
  have Bnf := Bn.thawed
  have Bnz := Bn.lt
  have Bnk := lt_add Bnz
  replace x0 := x0.farS hfr (by intro h e; have := l0 h; omega)
  replace x3 := x3.farS hfr (by intro h e; have := l3 h; omega)
  replace x4 := x4.farS hfr (by intro h e; have := l4 h; omega)
  replace x5 := x5.farS hfr (by intro h e; have := l5 h; omega)
  replace hh := hh.farS hfr (by omega)
  clear hfr
  have hz24 : Below w.heap.size w w24 := (by repeat (first | exact hz | exact Below.refl _ _ | refine Below.al ?_ _ | refine Below.drN ?_ _ | refine Below.drew ?_ | refine Below.st ?_ (by first | (dsimp only; omega) | (simp; omega) | simp) _ | refine Below.go ?_ hb24 | refine Below.go ?_ hb23 | refine Below.go ?_ hb22 | refine Below.go ?_ hb21))
  by_cases q2 : lo < 0
  · have HQ : Hid (fq = 1) := Lib.hid (by rw [HR.out, if_pos (Or.inl q2)])
    go_wp2_with fail
    refine (error_eq fq 1 _ hh HQ.out).mono ?_
    rintro e w25 ⟨rfl, hb25⟩
    have hkw25 : Below w24.heap.size w24 w25 := (by repeat (first | exact Below.refl _ _ | refine Below.al ?_ _ | refine Below.drN ?_ _ | refine Below.drew ?_ | refine Below.st ?_ (by first | (dsimp only; omega) | (simp; omega) | simp) _ | refine Below.go ?_ hb25))
    replace Br := Br.keep hkw25
    replace Brc := Br.cell
    replace Brf := Br.thawed
    replace Brz := Br.lt
    replace Brk := lt_add Brz
    replace Bn := Bn.keep hkw25
    replace Bnc := Bn.cell
    replace Bnf := Bn.thawed
    replace Bnz := Bn.lt
    replace Bnk := lt_add Bnz
    replace x5 := x5.keep hkw25
    have hsw25 := hkw25.size
    go_wp2_with fail
    refine (matrices_eq mr Mat.none _ _ _ (MatAt.mk x5) (none_at _) (by rw [HMR.out, HFQ.out, orNone_bad (by rw [HQ.out]; decide)])).mono ?_
    rintro e w26 ⟨rfl, hb26⟩
    go_wp2
    go_ret
    exact ⟨rfl, (by repeat (first | exact hz24 | exact Below.refl _ _ | refine Below.al ?_ _ | refine Below.drN ?_ _ | refine Below.drew ?_ | refine Below.st ?_ (by first | (dsimp only; omega) | (simp; omega) | simp) _ | refine Below.go ?_ hb26 | refine Below.go ?_ hb25))⟩
  · by_cases q3 : hi < lo
    · have HQ : Hid (fq = 1) := Lib.hid (by rw [HR.out, if_pos (Or.inr (Or.inl q3))])
      go_wp2_with fail
      refine (error_eq fq 1 _ hh HQ.out).mono ?_
      rintro e w25 ⟨rfl, hb25⟩
      have hkw25 : Below w24.heap.size w24 w25 := (by repeat (first | exact Below.refl _ _ | refine Below.al ?_ _ | refine Below.drN ?_ _ | refine Below.drew ?_ | refine Below.st ?_ (by first | (dsimp only; omega) | (simp; omega) | simp) _ | refine Below.go ?_ hb25))
      replace Br := Br.keep hkw25
      replace Brc := Br.cell
      replace Brf := Br.thawed
      replace Brz := Br.lt
      replace Brk := lt_add Brz
      replace Bn := Bn.keep hkw25
      replace Bnc := Bn.cell
      replace Bnf := Bn.thawed
      replace Bnz := Bn.lt
      replace Bnk := lt_add Bnz
      replace x5 := x5.keep hkw25
      have hsw25 := hkw25.size
      go_wp2_with fail
      refine (matrices_eq mr Mat.none _ _ _ (MatAt.mk x5) (none_at _) (by rw [HMR.out, HFQ.out, orNone_bad (by rw [HQ.out]; decide)])).mono ?_
      rintro e w26 ⟨rfl, hb26⟩
      go_wp2
      go_ret
      exact ⟨rfl, (by repeat (first | exact hz24 | exact Below.refl _ _ | refine Below.al ?_ _ | refine Below.drN ?_ _ | refine Below.drew ?_ | refine Below.st ?_ (by first | (dsimp only; omega) | (simp; omega) | simp) _ | refine Below.go ?_ hb26 | refine Below.go ?_ hb25))⟩
    · by_cases q4 : ma.rows < hi
      · have HQ : Hid (fq = 1) := Lib.hid (by rw [HR.out, if_pos (Or.inr (Or.inr q4))])
        go_wp2_with fail
        refine (error_eq fq 1 _ hh HQ.out).mono ?_
        rintro e w25 ⟨rfl, hb25⟩
        have hkw25 : Below w24.heap.size w24 w25 := (by repeat (first | exact Below.refl _ _ | refine Below.al ?_ _ | refine Below.drN ?_ _ | refine Below.drew ?_ | refine Below.st ?_ (by first | (dsimp only; omega) | (simp; omega) | simp) _ | refine Below.go ?_ hb25))
        replace Br := Br.keep hkw25
        replace Brc := Br.cell
        replace Brf := Br.thawed
        replace Brz := Br.lt
        replace Brk := lt_add Brz
        replace Bn := Bn.keep hkw25
        replace Bnc := Bn.cell
        replace Bnf := Bn.thawed
        replace Bnz := Bn.lt
        replace Bnk := lt_add Bnz
        replace x5 := x5.keep hkw25
        have hsw25 := hkw25.size
        go_wp2_with fail
        refine (matrices_eq mr Mat.none _ _ _ (MatAt.mk x5) (none_at _) (by rw [HMR.out, HFQ.out, orNone_bad (by rw [HQ.out]; decide)])).mono ?_
        rintro e w26 ⟨rfl, hb26⟩
        go_wp2
        go_ret
        exact ⟨rfl, (by repeat (first | exact hz24 | exact Below.refl _ _ | refine Below.al ?_ _ | refine Below.drN ?_ _ | refine Below.drew ?_ | refine Below.st ?_ (by first | (dsimp only; omega) | (simp; omega) | simp) _ | refine Below.go ?_ hb26 | refine Below.go ?_ hb25))⟩
      · have HQ : Hid (fq = 0) := Lib.hid (by rw [HR.out, if_neg (by omega)])
        have hE : errV fq = .nilIface := errV_nil HQ.out
        have hwt4 : w5.heap.size + 1 + 1 < w24.heap.size := Bwz
        go_wp2_with fail
        refine (refMatRows_all ma lo hi _ _ (MatAt.mk x0) (by rw [HFQ.out, HQ.out])).mono ?_
        rintro e w25 ⟨v25, rfl, ⟨a25, n25, k25, b25, o25, rfl, hn25, x25⟩, hb25⟩
        have hkw25 : Below w24.heap.size w24 w25 := (by repeat (first | exact Below.refl _ _ | refine Below.al ?_ _ | refine Below.drN ?_ _ | refine Below.drew ?_ | refine Below.st ?_ (by first | (dsimp only; omega) | (simp; omega) | simp) _ | refine Below.go ?_ hb25))
        replace Br := Br.keep hkw25
        replace Brc := Br.cell
        replace Brf := Br.thawed
        replace Brz := Br.lt
        replace Brk := lt_add Brz
        replace Bw := Bw.keep hkw25
        replace Bwc := Bw.cell
        replace Bwf := Bw.thawed
        replace Bwz := Bw.lt
        replace Bwk := lt_add Bwz
        replace x5 := x5.keep hkw25
        have hsw25 := hkw25.size
        go_wp2_with fail
        refine (matrices_eq mr (matRows ma lo hi) _ _ _ (MatAt.set3 (B := w5.heap.size + 1 + 1) x5 (fun h => by have := l5 h; omega) _ _ _) (MatAt.set3 (B := w5.heap.size + 1 + 1) x25 (fun h => by have := hn25 h; first | omega | (simp at this; omega)) _ _ _) (by rw [HMR.out, HFQ.out, orNone_ok HQ.out])).mono ?_
        rintro e w26 ⟨rfl, hb26⟩
        go_wp2
        go_ret
        exact ⟨rfl, (by repeat (first | exact hz24 | exact Below.refl _ _ | refine Below.al ?_ _ | refine Below.drN ?_ _ | refine Below.drew ?_ | refine Below.st ?_ (by first | (dsimp only; omega) | (simp; omega) | simp) _ | refine Below.go ?_ hb26 | refine Below.go ?_ hb25))⟩
end
theorem walk (ma : Mat) (va : Value) (x lo hi : Int) (w : World) (ha : MatAt w va ma) (hx : (Lit.int .i64 x).wf = true) (hlo : (Lit.int .i64 lo).wf = true) (hhi : (Lit.int .i64 hi).wf = true) (hh : Handle w) :
    Calls Tryd.prog 5 #[va, .int .i64 x, .int .i64 lo, .int .i64 hi] w fun e w' => e = .returned (.bool true) ∧ Below w.heap.size w w' := by
  obtain ⟨a0, n0, k0, b0, o0, rfl, x0⟩ := ha
  obtain ⟨y1, y2⟩ := bounds_i64 hlo
  obtain ⟨y3, y4⟩ := bounds_i64 hhi
  have bx : -9223372036854775808 ≤ lo ∧ lo ≤ 9223372036854775807 ∧ -9223372036854775808 ≤ hi ∧ hi ≤ 9223372036854775807 := ⟨y1, y2, y3, y4⟩
  by_cases fa : ma.fault = 0
  · have hT : turnFault ma = if 12 < ma.rows then 1 else 0 := if_pos fa
    by_cases h1 : 12 < ma.rows
    · rw [if_pos h1] at hT
      exact walk2b ma _ _ _ _ _ x lo hi w x0 hh bx fa h1 (Lib.hid hT)
    · rw [if_neg h1] at hT
      exact walk2a ma _ _ _ _ _ x lo hi w x0 hh bx fa h1 (Lib.hid hT)
  · exact walk1 ma _ _ _ _ _ x lo hi w x0 hh bx fa

theorem own : ownKnob Tryd.prog.godebug = none := by kernel_rfl
theorem laidOut : laidOutB Tryd.prog = true := by kernel_rfl
theorem et : Tryd.prog.globalNamed "errors.errorType" = some 0 := by kernel_rfl
theorem rt : (Tryd.prog.cutTypes.find? (·.1 == "internal/reflectlite.rtype")).map (·.2) = some 171 := by kernel_rfl
theorem oneRow : ((List.range 215).filter fun t => Tryd.prog.rowNamed t [101, 114, 114, 111, 114]) = [27] := by kernel_rfl
theorem tsize : Tryd.prog.types.size = 215 := by kernel_rfl
theorem handle_of_laid {W : World} (h : laidMetH Tryd.prog Rows.matPartsRow.laid W) : Handle W := by
  have h' : laidMet Tryd.prog [] W ∧ handlesMet Tryd.prog Rows.matPartsRow.laid W := h
  obtain ⟨name, u, ty, e1, e2, e3, e4, e5⟩ := h'.2 _ (List.mem_singleton.2 rfl)
  have en : name = [101, 114, 114, 111, 114] := (Option.some.inj e1).symm
  subst en
  obtain rfl := Option.some.inj (rt.symm.trans e2)
  have hm : ty ∈ (List.range 215).filter fun t => Tryd.prog.rowNamed t [101, 114, 114, 111, 114] := List.mem_filter.2 ⟨List.mem_range.2 (by rw [← tsize]; exact e3), e4⟩
  rw [oneRow] at hm
  obtain rfl := List.mem_singleton.1 hm
  have hh : typeHandle Tryd.prog 27 = .pointer (some ⟨1, 27, none⟩) := by kernel_rfl
  rw [hh] at e5
  simpa [Handle, handleV] using World.var?_cell et e5 0
noncomputable def laidWorld (os : Os) : World :=
  { World.holding Tryd.prog os ⟨#[], #[], []⟩ with heap := (World.holding Tryd.prog os ⟨#[], #[], []⟩).heap.modify 0 fun
      | .cells _ t frozen => .cells #[.iface 171 (.agg #[.pointer (some ⟨1, 27, none⟩)])] t frozen
      | o => o }
theorem laid_met (os : Os) : laidMetH Tryd.prog Rows.matPartsRow.laid ((laidWorld os).forCall (fun _ _ => 0) ⟨#[], #[.agg #[.int .i64 0, .int .i64 0, .slice none 0 0], .int .i64 0, .int .i64 0, .int .i64 0], []⟩).memory :=
  laidMetH_of_parts (laidMet_nil _ _) (by kernel_rfl)
theorem reads (os : Os) {H : Type} (enc : TypeId × Value → H) : ∃ places, DataW.whole enc Tryd.prog ((laidWorld os).forCall (fun _ _ => 0) ⟨#[], #[.agg #[.int .i64 0, .int .i64 0, .slice none 0 0], .int .i64 0, .int .i64 0, .int .i64 0], []⟩).memory Tryd.f5.params.toList Rows.matPartsSpec.vars false (#[.agg #[.int .i64 0, .int .i64 0, .slice none 0 0], .int .i64 0, .int .i64 0, .int .i64 0] : Array Value).toList 8 = some ([.agg [.lit (.int .i64 0), .lit (.int .i64 0), .nil], .lit (.int .i64 0), .lit (.int .i64 0), .lit (.int .i64 0)], [], places) :=
  ⟨[], by kernel_rfl⟩
set_option maxRecDepth 100000 in
set_option maxHeartbeats 1000000 in
theorem contract (H : Type) (enc : TypeId × Value → H) (W : World) (base : Nat) (args : Array Value) (ds gs : List (DataW H)) (before : List MemPlace)
    (hval0 : ∀ (j : Nat) t v, Tryd.f5.params[j]? = some t → args[j]? = some v → Value.okWide Tryd.prog W .any base t v)
    (hW : DataW.Whole enc Tryd.prog Tryd.f5.params.toList Rows.matPartsSpec.vars false W args.toList ds gs before) (hh : Handle W) :
    Calls Tryd.prog 5 args W fun e W' => ∃ v, e = .returned v ∧ Rows.matPartsSpec.post enc Tryd.prog Tryd.f5 false true false false W args v W' := by
  have hval := hval0
  have hW' := hW
  obtain ⟨p, q, hA0, hV, rfl, hfz, hnd⟩ := hW
  have hA : DataW.TrodAll enc Tryd.prog W 0 (fun _ => true) true Tryd.f5.params.toList args.toList ds p := hA0
  rw [Tryd.params5] at hA hval
  obtain ⟨v0, vs0, d0, ds0, p0, q0, hargs, rfl, rfl, h0, r0⟩ := trodAll_cons hA
  obtain ⟨v1, vs1, d1, ds1, p1, q1, rfl, rfl, rfl, h1, r1⟩ := trodAll_cons r0
  obtain ⟨v2, vs2, d2, ds2, p2, q2, rfl, rfl, rfl, h2, r2⟩ := trodAll_cons r1
  obtain ⟨v3, vs3, d3, ds3, p3, q3, rfl, rfl, rfl, h3, r3⟩ := trodAll_cons r2
  obtain ⟨rfl, rfl, rfl⟩ := trodAll_nil r3
  obtain rfl : args = #[v0, v1, v2, v3] := by cases args; simp_all
  obtain ⟨rfl, rfl⟩ := trodVars_none hV
  have k0 := h0
  have lt0 : ∀ x ∈ p0, x.block < W.heap.size := by obtain ⟨m, hm⟩ := k0; exact DataW.trod_lt m _ _ _ hm
  have k1 := h1
  have lt1 : ∀ x ∈ p1, x.block < W.heap.size := by obtain ⟨m, hm⟩ := k1; exact DataW.trod_lt m _ _ _ hm
  have k2 := h2
  have lt2 : ∀ x ∈ p2, x.block < W.heap.size := by obtain ⟨m, hm⟩ := k2; exact DataW.trod_lt m _ _ _ hm
  have k3 := h3
  have lt3 : ∀ x ∈ p3, x.block < W.heap.size := by obtain ⟨m, hm⟩ := k3; exact DataW.trod_lt m _ _ _ hm
  obtain ⟨a0, w0⟩ := open_mat (hval 0 25 v0 rfl rfl) h0
  obtain ⟨a1, rfl, rfl, rfl, w1⟩ := open_int Tryd.underlying3 (hval 1 3 v1 rfl rfl) h1
  obtain ⟨a2, rfl, rfl, rfl, w2⟩ := open_int Tryd.underlying3 (hval 2 3 v2 rfl rfl) h2
  obtain ⟨a3, rfl, rfl, rfl, w3⟩ := open_int Tryd.underlying3 (hval 3 3 v3 rfl rfl) h3
  clear hA0 hval0
  refine (walk a0 v0 a1 a2 a3 W w0 w1 w2 w3 hh).mono fun e W' ⟨he, bel⟩ => ?_
  subst he
  exact ⟨_, rfl, _, _, _, [], _, [], hW', trodAll_mk1 (shut_bool Tryd.underlying4 _), (trodAll_cons_mk (Below.trod laidOut (by kernel_rfl) (of_decide_eq_true (by kernel_rfl)) k0 bel lt0) (trodAll_cons_mk (Below.trod laidOut (by kernel_rfl) (of_decide_eq_true (by kernel_rfl)) k1 bel lt1) (trodAll_cons_mk (Below.trod laidOut (by kernel_rfl) (of_decide_eq_true (by kernel_rfl)) k2 bel lt2) (trodAll_cons_mk (Below.trod laidOut (by kernel_rfl) (of_decide_eq_true (by kernel_rfl)) k3 bel lt3) trodAll_mk0)))), rfl, bel.frame _, fun h => by cases h⟩

set_option maxRecDepth 100000 in
theorem lifted (os : Os) (started : os.Started) (H : Type) (enc : TypeId × Value → H) (F : Stop.Interp) :
    ReturnsInHanded {} Tryd.checked os 5 .any ((OpenSpec.ofChange Rows.matPartsSpec).preRow enc Tryd.prog Tryd.f5 Rows.matPartsRow.domain false Rows.matPartsRow.laid) (((OpenSpec.ofChange Rows.matPartsSpec).at F).post enc Tryd.prog Tryd.f5 false true false false) := by
  obtain ⟨places, hx⟩ := reads os enc
  refine returnsInHanded_of_row (C := Tryd.checked) (s := OpenSpec.ofChange Rows.matPartsSpec) own started (by kernel_rfl) Tryd.func5
    (witness_row_at (enc := enc) (C := Tryd.checked) false (laidWorld os) #[.agg #[.int .i64 0, .int .i64 0, .slice none 0 0], .int .i64 0, .int .i64 0, .int .i64 0] rfl (by kernel_rfl) (by kernel_rfl) (by kernel_rfl)
      (OpenSpec.preRow_of_cond 8 hx (by kernel_rfl) (fun k hk => by cases hk) (by kernel_rfl) (laid_met os))) ?_
  intro W base args ds gs before hval hW _ _ _ hL _ _
  exact contract H enc W base args ds gs before hval hW (handle_of_laid hL)

theorem said : Rows.MatPartsSaid :=
  OpenClaim.holds_of_cond 5 Tryd.f5 rfl rfl rfl rfl rfl rfl rfl ⟨rfl, rfl, rfl, rfl, rfl⟩ rfl rfl rfl rfl rfl (by kernel_rfl) Tryd.func5 (by kernel_rfl)
    (of_decide_eq_true (by kernel_rfl)) (by unfold Func.isWrapper; first | (rw [if_pos (by decide +kernel)]; kernel_rfl) | (rw [if_neg (by decide +kernel)]; exact ⟨rfl, rfl⟩))
    (fun os started H enc _ F => by rw [OpenClaim.pre_eq_preRow]; exact lifted os started H enc F)
theorem plain (f : FuncId) (fn : Func) (hf : Tryd.pinned.checked.prog.funcNamed Rows.matPartsRow.func = some f) (hfn : Tryd.pinned.checked.prog.funcs[f]? = some fn) :
    Rows.matPartsCard.stood.looks = Tryd.pinned.checked.prog.looks [] ∧ ∀ (j : Nat) t, fn.params[j]? = some t → Tryd.pinned.checked.prog.wantsStandIn t = false := by
  obtain rfl : f = 5 := Option.some.inj ((show Tryd.prog.funcNamed Rows.matPartsRow.func = some 5 by kernel_rfl).symm.trans hf) |>.symm
  obtain rfl : fn = Tryd.f5 := (Option.some.inj (Tryd.func5.symm.trans hfn)).symm
  refine ⟨by kernel_rfl, fun j t ht => ?_⟩
  rw [Tryd.params5] at ht
  have hm := Array.mem_of_getElem? ht
  have hc : t = 25 ∨ t = 3 ∨ t = 3 ∨ t = 3 := by simpa using hm
  rcases hc with rfl | rfl | rfl | rfl
  · exact (show Tryd.prog.wantsStandIn 25 = false by kernel_rfl)
  · exact (show Tryd.prog.wantsStandIn 3 = false by kernel_rfl)
  · exact (show Tryd.prog.wantsStandIn 3 = false by kernel_rfl)
  · exact (show Tryd.prog.wantsStandIn 3 = false by kernel_rfl)
theorem proved : Rows.MatPartsCardSaid :=
  Claim7.holds_tied_plain_at .later [] _ _ _ _ said (fun _ h => by cases h) (by kernel_rfl) (fun _ h => by cases h) matParts_row_tie rfl ⟨rfl, rfl⟩ (by kernel_rfl) rfl plain (by kernel_rfl)
#print axioms proved

end Go.Proofs.YtopckalgpeapnaaDoor.lawMatParts
