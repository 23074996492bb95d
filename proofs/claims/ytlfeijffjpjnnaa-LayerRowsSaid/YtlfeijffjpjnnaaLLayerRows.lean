/- LayerRows: rows do not mind one another: what comes of some rows are those rows of what comes; likewise what goes back: the law returns true, and the input reads as it did. No condition. -/
import Derived.Test.YtlfeijffjpjnnaaRows
import Derived.Test.YtlfeijffjpjnnaaLayFact
import Derived.Test.YtlfeijffjpjnnaaUni
import Derived.Test.YtlfeijffjpjnnaaMat7
import Derived.Test.YtlfeijffjpjnnaaForms
import Derived.Test.YtlfeijffjpjnnaaOpen
set_option linter.unusedVariables false
set_option linter.unusedSimpArgs false
set_option linter.unusedSectionVars false
namespace Go.Proofs.Ytlfeijffjpjnnaa.lawLayerRows
open Go.ChangeShapes Go.WideShapes Go.ChangeAt Go.RowKit Gal
set_option maxRecDepth 100000
set_option maxHeartbeats 8000000
theorem pick_is {c : Int} {R : Nat} : ∃ k : Nat, pickOf c ((R : Int) + 1) = k ∧ k ≤ R := by
  unfold pickOf
  have h1 := Int.emod_nonneg (if c < 0 then -(c + 1) else c) (b := (R : Int) + 1) (by omega)
  have h2 := Int.emod_lt_of_pos (if c < 0 then -(c + 1) else c) (b := (R : Int) + 1) (by omega)
  obtain ⟨k, hk⟩ := Int.eq_ofNat_of_zero_le h1
  exact ⟨k, hk, by omega⟩
/-- what is so of a matrix X that comes to Y, cut at row q into A and B, which come to U and V -/
structure Cut (l : Lay) (X A B U V Y : Mat) (q : Int) : Prop where
  go : l.goFault X = 0
  is : l.go X = Y
  f1 : rowsFault X 0 q = 0
  r1 : matRows X 0 q = A
  f2 : rowsFault X q X.rows = 0
  r2 : matRows X q X.rows = B
  g1 : l.goFault A = 0
  u1 : l.go A = U
  g2 : l.goFault B = 0
  u2 : l.go B = V
  first : firstFault [U, V] = 0
  st : stackFault [U, V] = 0
  whole : matStack [U, V] = Y
structure CutBack (l : Lay) (X G A B C D U V T : Mat) (q : Int) : Prop where
  back : l.backFault X G = 0
  is : l.back X G = T
  f1 : rowsFault G 0 q = 0
  r1 : matRows G 0 q = C
  f2 : rowsFault G q G.rows = 0
  r2 : matRows G q G.rows = D
  g1 : l.backFault A C = 0
  u1 : l.back A C = U
  g2 : l.backFault B D = 0
  u2 : l.back B D = V
  first : firstFault [U, V] = 0
  st : stackFault [U, V] = 0
  whole : matStack [U, V] = T
section
variable (l : Lay) (X G : Mat) (c : Int) (a0 a1 a2 a3 : Option Addr) (n0 n1 n2 n3 k0 k1 k2 k3 b0 b1 b2 b3 o0 o1 o2 o3 : Nat) (w : World) (x0 : IntsAt w a0 n0 k0 b0 o0 l.W.cells) (x1 : IntsAt w a1 n1 k1 b1 o1 l.B.cells) (x2 : IntsAt w a2 n2 k2 b2 o2 X.cells) (x3 : IntsAt w a3 n3 k3 b3 o3 G.cells)
  (hc : -9223372036854775808 ≤ c ∧ c ≤ 9223372036854775807)
include x0 x1 x2 x3 hc
theorem walk1 (hf : l.goFault X ≠ 0) :
    Calls Try.prog 11 #[.agg #[.int .i64 l.kind, .int .i64 l.W.rows, .int .i64 l.W.cols, .slice a0 n0 k0, .int .i64 l.B.rows, .int .i64 l.B.cols, .slice a1 n1 k1], .agg #[.int .i64 X.rows, .int .i64 X.cols, .slice a2 n2 k2], .agg #[.int .i64 G.rows, .int .i64 G.cols, .slice a3 n3 k3], .int .i64 c] w fun e w' => e = .returned (.bool true) ∧ Below w.heap.size w w'
  := by
  have HF := Lib.hid hf
  clear hf
  go_enter Try.func11, Try.ntmps11
  go_wp2_with fail
  refine (layFact_any _).mono ?_
  rintro e w1 ⟨rfl, hb1⟩
  have D4 := ((show Box _ w.heap.size [.int .i64 l.kind, .int .i64 l.W.rows, .int .i64 l.W.cols, .slice a0 n0 k0, .int .i64 l.B.rows, .int .i64 l.B.cols, .slice a1 n1 k1] 48 from (by repeat (first | fail | (with_reducible refine (Box.new' _ (w.heap.size) _ _ ?_); (simp; done)) | (with_reducible refine Box.alloc ?_ _) | (with_reducible refine Box.drewN ?_ _) | (with_reducible refine Box.drew ?_) | (with_reducible refine Box.far ?_ ?_ _; rotate_left 1; (first | (dsimp only; omega) | omega | (simp; omega) | simp)))))).keep hb1
  have D4c := D4.cell
  have D4f := D4.thawed
  have D4z := D4.lt
  have D4k := lt_add D4z
  have D5 := ((show Box _ (w.heap.size + 1) [.int .i64 X.rows, .int .i64 X.cols, .slice a2 n2 k2] 31 from (by repeat (first | fail | (with_reducible refine (Box.new' _ (w.heap.size + 1) _ _ ?_); (simp; done)) | (with_reducible refine Box.alloc ?_ _) | (with_reducible refine Box.drewN ?_ _) | (with_reducible refine Box.drew ?_) | (with_reducible refine Box.far ?_ ?_ _; rotate_left 1; (first | (dsimp only; omega) | omega | (simp; omega) | simp)))))).keep hb1
  have D5c := D5.cell
  have D5f := D5.thawed
  have D5z := D5.lt
  have D5k := lt_add D5z
  have D6 := ((show Box _ (w.heap.size + 1 + 1) [.int .i64 G.rows, .int .i64 G.cols, .slice a3 n3 k3] 31 from (by repeat (first | fail | (with_reducible refine (Box.new' _ (w.heap.size + 1 + 1) _ _ ?_); (simp; done)) | (with_reducible refine Box.alloc ?_ _) | (with_reducible refine Box.drewN ?_ _) | (with_reducible refine Box.drew ?_) | (with_reducible refine Box.far ?_ ?_ _; rotate_left 1; (first | (dsimp only; omega) | omega | (simp; omega) | simp)))))).keep hb1
  have D6c := D6.cell
  have D6f := D6.thawed
  have D6z := D6.lt
  have D6k := lt_add D6z
  have x0 := (x0.alloc _ |>.alloc _ |>.alloc _).keep hb1
  have x1 := (x1.alloc _ |>.alloc _ |>.alloc _).keep hb1
  have x2 := (x2.alloc _ |>.alloc _ |>.alloc _).keep hb1
  have x3 := (x3.alloc _ |>.alloc _ |>.alloc _).keep hb1
  go_wp2_with fail
  refine (layGo_not ⟨_, _, _, _, _, _, _, _, _, _, rfl, x0, x1⟩ (MatAt.mk x2) HF.out).mono ?_
  rintro e w2 ⟨v10, rfl, ⟨a10, n10, k10, b10, o10, rfl, hn10, x10⟩, hb2⟩
  go_wp2
  go_ret
  exact ⟨rfl, (by repeat (first | fail | (with_reducible exact Below.refl _ _) | (with_reducible refine Below.al ?_ _) | (with_reducible refine Below.drN ?_ _) | (with_reducible refine Below.drew ?_) | (with_reducible refine Below.st ?_ ?_ _; rotate_left 1; (first | (dsimp only; omega) | omega | (simp; omega) | simp)) | (with_reducible refine Below.go ?_ hb2) | (with_reducible refine Below.go ?_ hb1) | exact Below.refl _ _))⟩
variable (A B U V Y : Mat) (q : Int) (hq : pickOf c (X.rows + 1) = q) (h0 : 0 ≤ X.rows) (h24 : X.rows ≤ 24) (hcut : Cut l X A B U V Y q)
include hq h0 h24 hcut
theorem walk2 (hf : l.backFault X G ≠ 0) :
    Calls Try.prog 11 #[.agg #[.int .i64 l.kind, .int .i64 l.W.rows, .int .i64 l.W.cols, .slice a0 n0 k0, .int .i64 l.B.rows, .int .i64 l.B.cols, .slice a1 n1 k1], .agg #[.int .i64 X.rows, .int .i64 X.cols, .slice a2 n2 k2], .agg #[.int .i64 G.rows, .int .i64 G.cols, .slice a3 n3 k3], .int .i64 c] w fun e w' => e = .returned (.bool true) ∧ Below w.heap.size w w'
  := by
  have HF := Lib.hid hf
  clear hf
  have HQ := Lib.hid hq
  have HC := Lib.hid hcut
  clear hq hcut
  go_enter Try.func11, Try.ntmps11
  go_wp2_with fail
  refine (layFact_any _).mono ?_
  rintro e w1 ⟨rfl, hb1⟩
  have D4 := ((show Box _ w.heap.size [.int .i64 l.kind, .int .i64 l.W.rows, .int .i64 l.W.cols, .slice a0 n0 k0, .int .i64 l.B.rows, .int .i64 l.B.cols, .slice a1 n1 k1] 48 from (by repeat (first | fail | (with_reducible refine (Box.new' _ (w.heap.size) _ _ ?_); (simp; done)) | (with_reducible refine Box.alloc ?_ _) | (with_reducible refine Box.drewN ?_ _) | (with_reducible refine Box.drew ?_) | (with_reducible refine Box.far ?_ ?_ _; rotate_left 1; (first | (dsimp only; omega) | omega | (simp; omega) | simp)))))).keep hb1
  have D4c := D4.cell
  have D4f := D4.thawed
  have D4z := D4.lt
  have D4k := lt_add D4z
  have D5 := ((show Box _ (w.heap.size + 1) [.int .i64 X.rows, .int .i64 X.cols, .slice a2 n2 k2] 31 from (by repeat (first | fail | (with_reducible refine (Box.new' _ (w.heap.size + 1) _ _ ?_); (simp; done)) | (with_reducible refine Box.alloc ?_ _) | (with_reducible refine Box.drewN ?_ _) | (with_reducible refine Box.drew ?_) | (with_reducible refine Box.far ?_ ?_ _; rotate_left 1; (first | (dsimp only; omega) | omega | (simp; omega) | simp)))))).keep hb1
  have D5c := D5.cell
  have D5f := D5.thawed
  have D5z := D5.lt
  have D5k := lt_add D5z
  have D6 := ((show Box _ (w.heap.size + 1 + 1) [.int .i64 G.rows, .int .i64 G.cols, .slice a3 n3 k3] 31 from (by repeat (first | fail | (with_reducible refine (Box.new' _ (w.heap.size + 1 + 1) _ _ ?_); (simp; done)) | (with_reducible refine Box.alloc ?_ _) | (with_reducible refine Box.drewN ?_ _) | (with_reducible refine Box.drew ?_) | (with_reducible refine Box.far ?_ ?_ _; rotate_left 1; (first | (dsimp only; omega) | omega | (simp; omega) | simp)))))).keep hb1
  have D6c := D6.cell
  have D6f := D6.thawed
  have D6z := D6.lt
  have D6k := lt_add D6z
  have x0 := (x0.alloc _ |>.alloc _ |>.alloc _).keep hb1
  have x1 := (x1.alloc _ |>.alloc _ |>.alloc _).keep hb1
  have x2 := (x2.alloc _ |>.alloc _ |>.alloc _).keep hb1
  have x3 := (x3.alloc _ |>.alloc _ |>.alloc _).keep hb1
  go_wp2_with fail
  refine (layGo_is ⟨_, _, _, _, _, _, _, _, _, _, rfl, x0, x1⟩ (MatAt.mk x2) HC.out.go HC.out.is).mono ?_
  rintro e w2 ⟨v10, rfl, ⟨a10, n10, k10, b10, o10, rfl, hn10, x10⟩, hb2⟩
  have hkw2 : Below w1.heap.size w1 w2 := (by repeat (first | fail | (with_reducible exact Below.refl _ _) | (with_reducible refine Below.al ?_ _) | (with_reducible refine Below.drN ?_ _) | (with_reducible refine Below.drew ?_) | (with_reducible refine Below.st ?_ ?_ _; rotate_left 1; (first | (dsimp only; omega) | omega | (simp; omega) | simp)) | (with_reducible refine Below.go ?_ hb2) | exact Below.refl _ _))
  replace D4 := D4.keep hkw2
  replace D4c := D4.cell
  replace D4f := D4.thawed
  replace D4z := D4.lt
  replace D4k := lt_add D4z
  replace D5 := D5.keep hkw2
  replace D5c := D5.cell
  replace D5f := D5.thawed
  replace D5z := D5.lt
  replace D5k := lt_add D5z
  replace D6 := D6.keep hkw2
  replace D6c := D6.cell
  replace D6f := D6.thawed
  replace D6z := D6.lt
  replace D6k := lt_add D6z
  replace x0 := x0.keep hkw2
  replace x1 := x1.keep hkw2
  replace x2 := x2.keep hkw2
  replace x3 := x3.keep hkw2
  have hsw2 := hkw2.size
  go_wp2_with fail
  refine (pick_any c (X.rows + 1) _ hc.1 hc.2 (by omega) (by omega)).mono ?_
  rintro e w' ⟨rfl, rfl⟩
  rw [HQ.out]
  go_wp2_with fail
  refine (matRows_new X _ 0 q _ (MatAt.mk (x2.alloc _)) HC.out.f1).mono ?_
  rw [HC.out.r1]
  rintro e w3 ⟨v13, rfl, ⟨a13, n13, k13, b13, o13, rfl, hn13, x13⟩, hb3⟩
  have D10 := (Box.new w2 [.int .i64 Y.rows, .int .i64 Y.cols, .slice a10 n10 k10] 31).keep hb3
  have D10c := D10.cell
  have D10f := D10.thawed
  have D10z := D10.lt
  have D10k := lt_add D10z
  have hkw3 : Below w2.heap.size w2 w3 := (by repeat (first | fail | (with_reducible exact Below.refl _ _) | (with_reducible refine Below.al ?_ _) | (with_reducible refine Below.drN ?_ _) | (with_reducible refine Below.drew ?_) | (with_reducible refine Below.st ?_ ?_ _; rotate_left 1; (first | (dsimp only; omega) | omega | (simp; omega) | simp)) | (with_reducible refine Below.go ?_ hb3) | exact Below.refl _ _))
  replace D4 := D4.keep hkw3
  replace D4c := D4.cell
  replace D4f := D4.thawed
  replace D4z := D4.lt
  replace D4k := lt_add D4z
  replace D5 := D5.keep hkw3
  replace D5c := D5.cell
  replace D5f := D5.thawed
  replace D5z := D5.lt
  replace D5k := lt_add D5z
  replace D6 := D6.keep hkw3
  replace D6c := D6.cell
  replace D6f := D6.thawed
  replace D6z := D6.lt
  replace D6k := lt_add D6z
  replace x0 := x0.keep hkw3
  replace x1 := x1.keep hkw3
  replace x2 := x2.keep hkw3
  replace x3 := x3.keep hkw3
  replace x10 := x10.keep hkw3
  have hsw3 := hkw3.size
  go_wp2_with fail
  refine (matRows_new X _ q X.rows _ (MatAt.mk (x2.alloc _)) HC.out.f2).mono ?_
  rw [HC.out.r2]
  rintro e w4 ⟨v14, rfl, ⟨a14, n14, k14, b14, o14, rfl, hn14, x14⟩, hb4⟩
  have D13 := (Box.new w3 [.int .i64 A.rows, .int .i64 A.cols, .slice a13 n13 k13] 31).keep hb4
  have D13c := D13.cell
  have D13f := D13.thawed
  have D13z := D13.lt
  have D13k := lt_add D13z
  have hkw4 : Below w3.heap.size w3 w4 := (by repeat (first | fail | (with_reducible exact Below.refl _ _) | (with_reducible refine Below.al ?_ _) | (with_reducible refine Below.drN ?_ _) | (with_reducible refine Below.drew ?_) | (with_reducible refine Below.st ?_ ?_ _; rotate_left 1; (first | (dsimp only; omega) | omega | (simp; omega) | simp)) | (with_reducible refine Below.go ?_ hb4) | exact Below.refl _ _))
  replace D4 := D4.keep hkw4
  replace D4c := D4.cell
  replace D4f := D4.thawed
  replace D4z := D4.lt
  replace D4k := lt_add D4z
  replace D5 := D5.keep hkw4
  replace D5c := D5.cell
  replace D5f := D5.thawed
  replace D5z := D5.lt
  replace D5k := lt_add D5z
  replace D6 := D6.keep hkw4
  replace D6c := D6.cell
  replace D6f := D6.thawed
  replace D6z := D6.lt
  replace D6k := lt_add D6z
  replace D10 := D10.keep hkw4
  replace D10c := D10.cell
  replace D10f := D10.thawed
  replace D10z := D10.lt
  replace D10k := lt_add D10z
  replace x0 := x0.keep hkw4
  replace x1 := x1.keep hkw4
  replace x2 := x2.keep hkw4
  replace x3 := x3.keep hkw4
  replace x10 := x10.keep hkw4
  replace x13 := x13.keep hkw4
  have hsw4 := hkw4.size
  go_wp2_with fail
  refine (layGo_is ⟨_, _, _, _, _, _, _, _, _, _, rfl, x0.alloc _, x1.alloc _⟩ (MatAt.mk (x13.alloc _)) HC.out.g1 HC.out.u1).mono ?_
  rintro e w5 ⟨v16, rfl, ⟨a16, n16, k16, b16, o16, rfl, hn16, x16⟩, hb5⟩
  have D14 := (Box.new w4 [.int .i64 B.rows, .int .i64 B.cols, .slice a14 n14 k14] 31).keep hb5
  have D14c := D14.cell
  have D14f := D14.thawed
  have D14z := D14.lt
  have D14k := lt_add D14z
  have hkw5 : Below w4.heap.size w4 w5 := (by repeat (first | fail | (with_reducible exact Below.refl _ _) | (with_reducible refine Below.al ?_ _) | (with_reducible refine Below.drN ?_ _) | (with_reducible refine Below.drew ?_) | (with_reducible refine Below.st ?_ ?_ _; rotate_left 1; (first | (dsimp only; omega) | omega | (simp; omega) | simp)) | (with_reducible refine Below.go ?_ hb5) | exact Below.refl _ _))
  replace D4 := D4.keep hkw5
  replace D4c := D4.cell
  replace D4f := D4.thawed
  replace D4z := D4.lt
  replace D4k := lt_add D4z
  replace D5 := D5.keep hkw5
  replace D5c := D5.cell
  replace D5f := D5.thawed
  replace D5z := D5.lt
  replace D5k := lt_add D5z
  replace D6 := D6.keep hkw5
  replace D6c := D6.cell
  replace D6f := D6.thawed
  replace D6z := D6.lt
  replace D6k := lt_add D6z
  replace D10 := D10.keep hkw5
  replace D10c := D10.cell
  replace D10f := D10.thawed
  replace D10z := D10.lt
  replace D10k := lt_add D10z
  replace D13 := D13.keep hkw5
  replace D13c := D13.cell
  replace D13f := D13.thawed
  replace D13z := D13.lt
  replace D13k := lt_add D13z
  replace x0 := x0.keep hkw5
  replace x1 := x1.keep hkw5
  replace x2 := x2.keep hkw5
  replace x3 := x3.keep hkw5
  replace x10 := x10.keep hkw5
  replace x13 := x13.keep hkw5
  replace x14 := x14.keep hkw5
  have hsw5 := hkw5.size
  have l0 : 0 < n0 → b0 < w5.heap.size := x0.lt
  have l1 : 0 < n1 → b1 < w5.heap.size := x1.lt
  have l14 : 0 < n14 → b14 < w5.heap.size := x14.lt
  go_wp2_with fail
  refine (layGo_is ⟨_, _, _, _, _, _, _, _, _, _, rfl, x0.alloc _, x1.alloc _⟩ (MatAt.mk (x14.alloc _)) HC.out.g2 HC.out.u2).mono ?_
  rintro e w6 ⟨v17, rfl, ⟨a17, n17, k17, b17, o17, rfl, hn17, x17⟩, hb6⟩
  have D16 := (Box.new w5 [.int .i64 U.rows, .int .i64 U.cols, .slice a16 n16 k16] 31).keep hb6
  have D16c := D16.cell
  have D16f := D16.thawed
  have D16z := D16.lt
  have D16k := lt_add D16z
  have hkw6 : Below w5.heap.size w5 w6 := (by repeat (first | fail | (with_reducible exact Below.refl _ _) | (with_reducible refine Below.al ?_ _) | (with_reducible refine Below.drN ?_ _) | (with_reducible refine Below.drew ?_) | (with_reducible refine Below.st ?_ ?_ _; rotate_left 1; (first | (dsimp only; omega) | omega | (simp; omega) | simp)) | (with_reducible refine Below.go ?_ hb6) | exact Below.refl _ _))
  replace D4 := D4.keep hkw6
  replace D4c := D4.cell
  replace D4f := D4.thawed
  replace D4z := D4.lt
  replace D4k := lt_add D4z
  replace D5 := D5.keep hkw6
  replace D5c := D5.cell
  replace D5f := D5.thawed
  replace D5z := D5.lt
  replace D5k := lt_add D5z
  replace D6 := D6.keep hkw6
  replace D6c := D6.cell
  replace D6f := D6.thawed
  replace D6z := D6.lt
  replace D6k := lt_add D6z
  replace D10 := D10.keep hkw6
  replace D10c := D10.cell
  replace D10f := D10.thawed
  replace D10z := D10.lt
  replace D10k := lt_add D10z
  replace D13 := D13.keep hkw6
  replace D13c := D13.cell
  replace D13f := D13.thawed
  replace D13z := D13.lt
  replace D13k := lt_add D13z
  replace D14 := D14.keep hkw6
  replace D14c := D14.cell
  replace D14f := D14.thawed
  replace D14z := D14.lt
  replace D14k := lt_add D14z
  replace x0 := x0.keep hkw6
  replace x1 := x1.keep hkw6
  replace x2 := x2.keep hkw6
  replace x3 := x3.keep hkw6
  replace x10 := x10.keep hkw6
  replace x13 := x13.keep hkw6
  replace x14 := x14.keep hkw6
  replace x16 := x16.keep hkw6
  have hsw6 := hkw6.size
  go_wp2_with fail
  refine (matStack_any _ 2 2 (w6.heap.size + 1) 0 [U, V] _ (mats2 (Box.new' _ _ _ _ (by simp)) (x16.alloc _ |>.alloc _) (x17.alloc _ |>.alloc _)) (by omega) HC.out.first (by omega)).mono ?_
  rintro e w7 ⟨hst, _, hb7⟩
  obtain ⟨v18, rfl, hm18⟩ := hst HC.out.st
  clear hst
  rw [HC.out.whole] at hm18
  obtain ⟨a18, n18, k18, b18, o18, rfl, hn18, x18⟩ := hm18
  have D17 := ((show Box _ w6.heap.size [.int .i64 V.rows, .int .i64 V.cols, .slice a17 n17 k17] 31 from (by repeat (first | fail | (with_reducible refine (Box.new' _ (w6.heap.size) _ _ ?_); (simp; done)) | (with_reducible refine Box.alloc ?_ _) | (with_reducible refine Box.drewN ?_ _) | (with_reducible refine Box.drew ?_) | (with_reducible refine Box.far ?_ ?_ _; rotate_left 1; (first | (dsimp only; omega) | omega | (simp; omega) | simp)))))).keep hb7
  have D17c := D17.cell
  have D17f := D17.thawed
  have D17z := D17.lt
  have D17k := lt_add D17z
  have hkw7 : Below w6.heap.size w6 w7 := (by repeat (first | fail | (with_reducible exact Below.refl _ _) | (with_reducible refine Below.al ?_ _) | (with_reducible refine Below.drN ?_ _) | (with_reducible refine Below.drew ?_) | (with_reducible refine Below.st ?_ ?_ _; rotate_left 1; (first | (dsimp only; omega) | omega | (simp; omega) | simp)) | (with_reducible refine Below.go ?_ hb7) | exact Below.refl _ _))
  replace D4 := D4.keep hkw7
  replace D4c := D4.cell
  replace D4f := D4.thawed
  replace D4z := D4.lt
  replace D4k := lt_add D4z
  replace D5 := D5.keep hkw7
  replace D5c := D5.cell
  replace D5f := D5.thawed
  replace D5z := D5.lt
  replace D5k := lt_add D5z
  replace D6 := D6.keep hkw7
  replace D6c := D6.cell
  replace D6f := D6.thawed
  replace D6z := D6.lt
  replace D6k := lt_add D6z
  replace D10 := D10.keep hkw7
  replace D10c := D10.cell
  replace D10f := D10.thawed
  replace D10z := D10.lt
  replace D10k := lt_add D10z
  replace D13 := D13.keep hkw7
  replace D13c := D13.cell
  replace D13f := D13.thawed
  replace D13z := D13.lt
  replace D13k := lt_add D13z
  replace D14 := D14.keep hkw7
  replace D14c := D14.cell
  replace D14f := D14.thawed
  replace D14z := D14.lt
  replace D14k := lt_add D14z
  replace D16 := D16.keep hkw7
  replace D16c := D16.cell
  replace D16f := D16.thawed
  replace D16z := D16.lt
  replace D16k := lt_add D16z
  replace x0 := x0.keep hkw7
  replace x1 := x1.keep hkw7
  replace x2 := x2.keep hkw7
  replace x3 := x3.keep hkw7
  replace x10 := x10.keep hkw7
  replace x13 := x13.keep hkw7
  replace x14 := x14.keep hkw7
  have hsw7 := hkw7.size
  go_wp2_with fail
  refine (matrices_same Y _ _ _ (MatAt.mk (x18.alloc _)) (MatAt.mk (x10.alloc _))).mono ?_
  rintro e w8 ⟨rfl, hb8⟩
  have D18 := (Box.new w7 [.int .i64 Y.rows, .int .i64 Y.cols, .slice a18 n18 k18] 31).keep hb8
  have D18c := D18.cell
  have D18f := D18.thawed
  have D18z := D18.lt
  have D18k := lt_add D18z
  have hkw8 : Below w7.heap.size w7 w8 := (by repeat (first | fail | (with_reducible exact Below.refl _ _) | (with_reducible refine Below.al ?_ _) | (with_reducible refine Below.drN ?_ _) | (with_reducible refine Below.drew ?_) | (with_reducible refine Below.st ?_ ?_ _; rotate_left 1; (first | (dsimp only; omega) | omega | (simp; omega) | simp)) | (with_reducible refine Below.go ?_ hb8) | exact Below.refl _ _))
  replace D4 := D4.keep hkw8
  replace D4c := D4.cell
  replace D4f := D4.thawed
  replace D4z := D4.lt
  replace D4k := lt_add D4z
  replace D5 := D5.keep hkw8
  replace D5c := D5.cell
  replace D5f := D5.thawed
  replace D5z := D5.lt
  replace D5k := lt_add D5z
  replace D6 := D6.keep hkw8
  replace D6c := D6.cell
  replace D6f := D6.thawed
  replace D6z := D6.lt
  replace D6k := lt_add D6z
  replace D13 := D13.keep hkw8
  replace D13c := D13.cell
  replace D13f := D13.thawed
  replace D13z := D13.lt
  replace D13k := lt_add D13z
  replace D14 := D14.keep hkw8
  replace D14c := D14.cell
  replace D14f := D14.thawed
  replace D14z := D14.lt
  replace D14k := lt_add D14z
  replace D16 := D16.keep hkw8
  replace D16c := D16.cell
  replace D16f := D16.thawed
  replace D16z := D16.lt
  replace D16k := lt_add D16z
  replace D17 := D17.keep hkw8
  replace D17c := D17.cell
  replace D17f := D17.thawed
  replace D17z := D17.lt
  replace D17k := lt_add D17z
  replace x0 := x0.keep hkw8
  replace x1 := x1.keep hkw8
  replace x2 := x2.keep hkw8
  replace x3 := x3.keep hkw8
  replace x13 := x13.keep hkw8
  replace x14 := x14.keep hkw8
  have hsw8 := hkw8.size
  go_wp2_with fail
  refine (layBack_not ⟨_, _, _, _, _, _, _, _, _, _, rfl, x0, x1⟩ (MatAt.mk x2) (MatAt.mk x3) HF.out).mono ?_
  rintro e w9 ⟨v20, d20, rfl, ⟨a20, n20, k20, b20, o20, rfl, hn20, x20⟩, ⟨a21, n21, k21, b21, o21, a22, n22, k22, b22, o22, rfl, _, _, _, _⟩, hb9⟩
  go_wp2
  go_ret
  exact ⟨rfl, (by repeat (first | fail | (with_reducible exact Below.refl _ _) | (with_reducible refine Below.al ?_ _) | (with_reducible refine Below.drN ?_ _) | (with_reducible refine Below.drew ?_) | (with_reducible refine Below.st ?_ ?_ _; rotate_left 1; (first | (dsimp only; omega) | omega | (simp; omega) | simp)) | (with_reducible refine Below.go ?_ hb9) | (with_reducible refine Below.go ?_ hb8) | (with_reducible refine Below.go ?_ hb7) | (with_reducible refine Below.go ?_ hb6) | (with_reducible refine Below.go ?_ hb5) | (with_reducible refine Below.go ?_ hb4) | (with_reducible refine Below.go ?_ hb3) | (with_reducible refine Below.go ?_ hb2) | (with_reducible refine Below.go ?_ hb1) | exact Below.refl _ _))⟩
variable (C D U2 V2 T : Mat) (hback : CutBack l X G A B C D U2 V2 T q)
include hback
theorem walk3 :
    Calls Try.prog 11 #[.agg #[.int .i64 l.kind, .int .i64 l.W.rows, .int .i64 l.W.cols, .slice a0 n0 k0, .int .i64 l.B.rows, .int .i64 l.B.cols, .slice a1 n1 k1], .agg #[.int .i64 X.rows, .int .i64 X.cols, .slice a2 n2 k2], .agg #[.int .i64 G.rows, .int .i64 G.cols, .slice a3 n3 k3], .int .i64 c] w fun e w' => e = .returned (.bool true) ∧ Below w.heap.size w w'
  := by
  have HB := Lib.hid hback
  clear hback
  have HQ := Lib.hid hq
  have HC := Lib.hid hcut
  clear hq hcut
  go_enter Try.func11, Try.ntmps11
  go_wp2_with fail
  refine (layFact_any _).mono ?_
  rintro e w1 ⟨rfl, hb1⟩
  have D4 := ((show Box _ w.heap.size [.int .i64 l.kind, .int .i64 l.W.rows, .int .i64 l.W.cols, .slice a0 n0 k0, .int .i64 l.B.rows, .int .i64 l.B.cols, .slice a1 n1 k1] 48 from (by repeat (first | fail | (with_reducible refine (Box.new' _ (w.heap.size) _ _ ?_); (simp; done)) | (with_reducible refine Box.alloc ?_ _) | (with_reducible refine Box.drewN ?_ _) | (with_reducible refine Box.drew ?_) | (with_reducible refine Box.far ?_ ?_ _; rotate_left 1; (first | (dsimp only; omega) | omega | (simp; omega) | simp)))))).keep hb1
  have D4c := D4.cell
  have D4f := D4.thawed
  have D4z := D4.lt
  have D4k := lt_add D4z
  have D5 := ((show Box _ (w.heap.size + 1) [.int .i64 X.rows, .int .i64 X.cols, .slice a2 n2 k2] 31 from (by repeat (first | fail | (with_reducible refine (Box.new' _ (w.heap.size + 1) _ _ ?_); (simp; done)) | (with_reducible refine Box.alloc ?_ _) | (with_reducible refine Box.drewN ?_ _) | (with_reducible refine Box.drew ?_) | (with_reducible refine Box.far ?_ ?_ _; rotate_left 1; (first | (dsimp only; omega) | omega | (simp; omega) | simp)))))).keep hb1
  have D5c := D5.cell
  have D5f := D5.thawed
  have D5z := D5.lt
  have D5k := lt_add D5z
  have D6 := ((show Box _ (w.heap.size + 1 + 1) [.int .i64 G.rows, .int .i64 G.cols, .slice a3 n3 k3] 31 from (by repeat (first | fail | (with_reducible refine (Box.new' _ (w.heap.size + 1 + 1) _ _ ?_); (simp; done)) | (with_reducible refine Box.alloc ?_ _) | (with_reducible refine Box.drewN ?_ _) | (with_reducible refine Box.drew ?_) | (with_reducible refine Box.far ?_ ?_ _; rotate_left 1; (first | (dsimp only; omega) | omega | (simp; omega) | simp)))))).keep hb1
  have D6c := D6.cell
  have D6f := D6.thawed
  have D6z := D6.lt
  have D6k := lt_add D6z
  have x0 := (x0.alloc _ |>.alloc _ |>.alloc _).keep hb1
  have x1 := (x1.alloc _ |>.alloc _ |>.alloc _).keep hb1
  have x2 := (x2.alloc _ |>.alloc _ |>.alloc _).keep hb1
  have x3 := (x3.alloc _ |>.alloc _ |>.alloc _).keep hb1
  go_wp2_with fail
  refine (layGo_is ⟨_, _, _, _, _, _, _, _, _, _, rfl, x0, x1⟩ (MatAt.mk x2) HC.out.go HC.out.is).mono ?_
  rintro e w2 ⟨v10, rfl, ⟨a10, n10, k10, b10, o10, rfl, hn10, x10⟩, hb2⟩
  have hkw2 : Below w1.heap.size w1 w2 := (by repeat (first | fail | (with_reducible exact Below.refl _ _) | (with_reducible refine Below.al ?_ _) | (with_reducible refine Below.drN ?_ _) | (with_reducible refine Below.drew ?_) | (with_reducible refine Below.st ?_ ?_ _; rotate_left 1; (first | (dsimp only; omega) | omega | (simp; omega) | simp)) | (with_reducible refine Below.go ?_ hb2) | exact Below.refl _ _))
  replace D4 := D4.keep hkw2
  replace D4c := D4.cell
  replace D4f := D4.thawed
  replace D4z := D4.lt
  replace D4k := lt_add D4z
  replace D5 := D5.keep hkw2
  replace D5c := D5.cell
  replace D5f := D5.thawed
  replace D5z := D5.lt
  replace D5k := lt_add D5z
  replace D6 := D6.keep hkw2
  replace D6c := D6.cell
  replace D6f := D6.thawed
  replace D6z := D6.lt
  replace D6k := lt_add D6z
  replace x0 := x0.keep hkw2
  replace x1 := x1.keep hkw2
  replace x2 := x2.keep hkw2
  replace x3 := x3.keep hkw2
  have hsw2 := hkw2.size
  go_wp2_with fail
  refine (pick_any c (X.rows + 1) _ hc.1 hc.2 (by omega) (by omega)).mono ?_
  rintro e w' ⟨rfl, rfl⟩
  rw [HQ.out]
  go_wp2_with fail
  refine (matRows_new X _ 0 q _ (MatAt.mk (x2.alloc _)) HC.out.f1).mono ?_
  rw [HC.out.r1]
  rintro e w3 ⟨v13, rfl, ⟨a13, n13, k13, b13, o13, rfl, hn13, x13⟩, hb3⟩
  have D10 := (Box.new w2 [.int .i64 Y.rows, .int .i64 Y.cols, .slice a10 n10 k10] 31).keep hb3
  have D10c := D10.cell
  have D10f := D10.thawed
  have D10z := D10.lt
  have D10k := lt_add D10z
  have hkw3 : Below w2.heap.size w2 w3 := (by repeat (first | fail | (with_reducible exact Below.refl _ _) | (with_reducible refine Below.al ?_ _) | (with_reducible refine Below.drN ?_ _) | (with_reducible refine Below.drew ?_) | (with_reducible refine Below.st ?_ ?_ _; rotate_left 1; (first | (dsimp only; omega) | omega | (simp; omega) | simp)) | (with_reducible refine Below.go ?_ hb3) | exact Below.refl _ _))
  replace D4 := D4.keep hkw3
  replace D4c := D4.cell
  replace D4f := D4.thawed
  replace D4z := D4.lt
  replace D4k := lt_add D4z
  replace D5 := D5.keep hkw3
  replace D5c := D5.cell
  replace D5f := D5.thawed
  replace D5z := D5.lt
  replace D5k := lt_add D5z
  replace D6 := D6.keep hkw3
  replace D6c := D6.cell
  replace D6f := D6.thawed
  replace D6z := D6.lt
  replace D6k := lt_add D6z
  replace x0 := x0.keep hkw3
  replace x1 := x1.keep hkw3
  replace x2 := x2.keep hkw3
  replace x3 := x3.keep hkw3
  replace x10 := x10.keep hkw3
  have hsw3 := hkw3.size
  go_wp2_with fail
  refine (matRows_new X _ q X.rows _ (MatAt.mk (x2.alloc _)) HC.out.f2).mono ?_
  rw [HC.out.r2]
  rintro e w4 ⟨v14, rfl, ⟨a14, n14, k14, b14, o14, rfl, hn14, x14⟩, hb4⟩
  have D13 := (Box.new w3 [.int .i64 A.rows, .int .i64 A.cols, .slice a13 n13 k13] 31).keep hb4
  have D13c := D13.cell
  have D13f := D13.thawed
  have D13z := D13.lt
  have D13k := lt_add D13z
  have hkw4 : Below w3.heap.size w3 w4 := (by repeat (first | fail | (with_reducible exact Below.refl _ _) | (with_reducible refine Below.al ?_ _) | (with_reducible refine Below.drN ?_ _) | (with_reducible refine Below.drew ?_) | (with_reducible refine Below.st ?_ ?_ _; rotate_left 1; (first | (dsimp only; omega) | omega | (simp; omega) | simp)) | (with_reducible refine Below.go ?_ hb4) | exact Below.refl _ _))
  replace D4 := D4.keep hkw4
  replace D4c := D4.cell
  replace D4f := D4.thawed
  replace D4z := D4.lt
  replace D4k := lt_add D4z
  replace D5 := D5.keep hkw4
  replace D5c := D5.cell
  replace D5f := D5.thawed
  replace D5z := D5.lt
  replace D5k := lt_add D5z
  replace D6 := D6.keep hkw4
  replace D6c := D6.cell
  replace D6f := D6.thawed
  replace D6z := D6.lt
  replace D6k := lt_add D6z
  replace D10 := D10.keep hkw4
  replace D10c := D10.cell
  replace D10f := D10.thawed
  replace D10z := D10.lt
  replace D10k := lt_add D10z
  replace x0 := x0.keep hkw4
  replace x1 := x1.keep hkw4
  replace x2 := x2.keep hkw4
  replace x3 := x3.keep hkw4
  replace x10 := x10.keep hkw4
  replace x13 := x13.keep hkw4
  have hsw4 := hkw4.size
  go_wp2_with fail
  refine (layGo_is ⟨_, _, _, _, _, _, _, _, _, _, rfl, x0.alloc _, x1.alloc _⟩ (MatAt.mk (x13.alloc _)) HC.out.g1 HC.out.u1).mono ?_
  rintro e w5 ⟨v16, rfl, ⟨a16, n16, k16, b16, o16, rfl, hn16, x16⟩, hb5⟩
  have D14 := (Box.new w4 [.int .i64 B.rows, .int .i64 B.cols, .slice a14 n14 k14] 31).keep hb5
  have D14c := D14.cell
  have D14f := D14.thawed
  have D14z := D14.lt
  have D14k := lt_add D14z
  have hkw5 : Below w4.heap.size w4 w5 := (by repeat (first | fail | (with_reducible exact Below.refl _ _) | (with_reducible refine Below.al ?_ _) | (with_reducible refine Below.drN ?_ _) | (with_reducible refine Below.drew ?_) | (with_reducible refine Below.st ?_ ?_ _; rotate_left 1; (first | (dsimp only; omega) | omega | (simp; omega) | simp)) | (with_reducible refine Below.go ?_ hb5) | exact Below.refl _ _))
  replace D4 := D4.keep hkw5
  replace D4c := D4.cell
  replace D4f := D4.thawed
  replace D4z := D4.lt
  replace D4k := lt_add D4z
  replace D5 := D5.keep hkw5
  replace D5c := D5.cell
  replace D5f := D5.thawed
  replace D5z := D5.lt
  replace D5k := lt_add D5z
  replace D6 := D6.keep hkw5
  replace D6c := D6.cell
  replace D6f := D6.thawed
  replace D6z := D6.lt
  replace D6k := lt_add D6z
  replace D10 := D10.keep hkw5
  replace D10c := D10.cell
  replace D10f := D10.thawed
  replace D10z := D10.lt
  replace D10k := lt_add D10z
  replace D13 := D13.keep hkw5
  replace D13c := D13.cell
  replace D13f := D13.thawed
  replace D13z := D13.lt
  replace D13k := lt_add D13z
  replace x0 := x0.keep hkw5
  replace x1 := x1.keep hkw5
  replace x2 := x2.keep hkw5
  replace x3 := x3.keep hkw5
  replace x10 := x10.keep hkw5
  replace x13 := x13.keep hkw5
  replace x14 := x14.keep hkw5
  have hsw5 := hkw5.size
  have l0 : 0 < n0 → b0 < w5.heap.size := x0.lt
  have l1 : 0 < n1 → b1 < w5.heap.size := x1.lt
  have l14 : 0 < n14 → b14 < w5.heap.size := x14.lt
  go_wp2_with fail
  refine (layGo_is ⟨_, _, _, _, _, _, _, _, _, _, rfl, x0.alloc _, x1.alloc _⟩ (MatAt.mk (x14.alloc _)) HC.out.g2 HC.out.u2).mono ?_
  rintro e w6 ⟨v17, rfl, ⟨a17, n17, k17, b17, o17, rfl, hn17, x17⟩, hb6⟩
  have D16 := (Box.new w5 [.int .i64 U.rows, .int .i64 U.cols, .slice a16 n16 k16] 31).keep hb6
  have D16c := D16.cell
  have D16f := D16.thawed
  have D16z := D16.lt
  have D16k := lt_add D16z
  have hkw6 : Below w5.heap.size w5 w6 := (by repeat (first | fail | (with_reducible exact Below.refl _ _) | (with_reducible refine Below.al ?_ _) | (with_reducible refine Below.drN ?_ _) | (with_reducible refine Below.drew ?_) | (with_reducible refine Below.st ?_ ?_ _; rotate_left 1; (first | (dsimp only; omega) | omega | (simp; omega) | simp)) | (with_reducible refine Below.go ?_ hb6) | exact Below.refl _ _))
  replace D4 := D4.keep hkw6
  replace D4c := D4.cell
  replace D4f := D4.thawed
  replace D4z := D4.lt
  replace D4k := lt_add D4z
  replace D5 := D5.keep hkw6
  replace D5c := D5.cell
  replace D5f := D5.thawed
  replace D5z := D5.lt
  replace D5k := lt_add D5z
  replace D6 := D6.keep hkw6
  replace D6c := D6.cell
  replace D6f := D6.thawed
  replace D6z := D6.lt
  replace D6k := lt_add D6z
  replace D10 := D10.keep hkw6
  replace D10c := D10.cell
  replace D10f := D10.thawed
  replace D10z := D10.lt
  replace D10k := lt_add D10z
  replace D13 := D13.keep hkw6
  replace D13c := D13.cell
  replace D13f := D13.thawed
  replace D13z := D13.lt
  replace D13k := lt_add D13z
  replace D14 := D14.keep hkw6
  replace D14c := D14.cell
  replace D14f := D14.thawed
  replace D14z := D14.lt
  replace D14k := lt_add D14z
  replace x0 := x0.keep hkw6
  replace x1 := x1.keep hkw6
  replace x2 := x2.keep hkw6
  replace x3 := x3.keep hkw6
  replace x10 := x10.keep hkw6
  replace x13 := x13.keep hkw6
  replace x14 := x14.keep hkw6
  replace x16 := x16.keep hkw6
  have hsw6 := hkw6.size
  go_wp2_with fail
  refine (matStack_any _ 2 2 (w6.heap.size + 1) 0 [U, V] _ (mats2 (Box.new' _ _ _ _ (by simp)) (x16.alloc _ |>.alloc _) (x17.alloc _ |>.alloc _)) (by omega) HC.out.first (by omega)).mono ?_
  rintro e w7 ⟨hst, _, hb7⟩
  obtain ⟨v18, rfl, hm18⟩ := hst HC.out.st
  clear hst
  rw [HC.out.whole] at hm18
  obtain ⟨a18, n18, k18, b18, o18, rfl, hn18, x18⟩ := hm18
  have D17 := ((show Box _ w6.heap.size [.int .i64 V.rows, .int .i64 V.cols, .slice a17 n17 k17] 31 from (by repeat (first | fail | (with_reducible refine (Box.new' _ (w6.heap.size) _ _ ?_); (simp; done)) | (with_reducible refine Box.alloc ?_ _) | (with_reducible refine Box.drewN ?_ _) | (with_reducible refine Box.drew ?_) | (with_reducible refine Box.far ?_ ?_ _; rotate_left 1; (first | (dsimp only; omega) | omega | (simp; omega) | simp)))))).keep hb7
  have D17c := D17.cell
  have D17f := D17.thawed
  have D17z := D17.lt
  have D17k := lt_add D17z
  have hkw7 : Below w6.heap.size w6 w7 := (by repeat (first | fail | (with_reducible exact Below.refl _ _) | (with_reducible refine Below.al ?_ _) | (with_reducible refine Below.drN ?_ _) | (with_reducible refine Below.drew ?_) | (with_reducible refine Below.st ?_ ?_ _; rotate_left 1; (first | (dsimp only; omega) | omega | (simp; omega) | simp)) | (with_reducible refine Below.go ?_ hb7) | exact Below.refl _ _))
  replace D4 := D4.keep hkw7
  replace D4c := D4.cell
  replace D4f := D4.thawed
  replace D4z := D4.lt
  replace D4k := lt_add D4z
  replace D5 := D5.keep hkw7
  replace D5c := D5.cell
  replace D5f := D5.thawed
  replace D5z := D5.lt
  replace D5k := lt_add D5z
  replace D6 := D6.keep hkw7
  replace D6c := D6.cell
  replace D6f := D6.thawed
  replace D6z := D6.lt
  replace D6k := lt_add D6z
  replace D10 := D10.keep hkw7
  replace D10c := D10.cell
  replace D10f := D10.thawed
  replace D10z := D10.lt
  replace D10k := lt_add D10z
  replace D13 := D13.keep hkw7
  replace D13c := D13.cell
  replace D13f := D13.thawed
  replace D13z := D13.lt
  replace D13k := lt_add D13z
  replace D14 := D14.keep hkw7
  replace D14c := D14.cell
  replace D14f := D14.thawed
  replace D14z := D14.lt
  replace D14k := lt_add D14z
  replace D16 := D16.keep hkw7
  replace D16c := D16.cell
  replace D16f := D16.thawed
  replace D16z := D16.lt
  replace D16k := lt_add D16z
  replace x0 := x0.keep hkw7
  replace x1 := x1.keep hkw7
  replace x2 := x2.keep hkw7
  replace x3 := x3.keep hkw7
  replace x10 := x10.keep hkw7
  replace x13 := x13.keep hkw7
  replace x14 := x14.keep hkw7
  have hsw7 := hkw7.size
  go_wp2_with fail
  refine (matrices_same Y _ _ _ (MatAt.mk (x18.alloc _)) (MatAt.mk (x10.alloc _))).mono ?_
  rintro e w8 ⟨rfl, hb8⟩
  have D18 := (Box.new w7 [.int .i64 Y.rows, .int .i64 Y.cols, .slice a18 n18 k18] 31).keep hb8
  have D18c := D18.cell
  have D18f := D18.thawed
  have D18z := D18.lt
  have D18k := lt_add D18z
  have hkw8 : Below w7.heap.size w7 w8 := (by repeat (first | fail | (with_reducible exact Below.refl _ _) | (with_reducible refine Below.al ?_ _) | (with_reducible refine Below.drN ?_ _) | (with_reducible refine Below.drew ?_) | (with_reducible refine Below.st ?_ ?_ _; rotate_left 1; (first | (dsimp only; omega) | omega | (simp; omega) | simp)) | (with_reducible refine Below.go ?_ hb8) | exact Below.refl _ _))
  replace D4 := D4.keep hkw8
  replace D4c := D4.cell
  replace D4f := D4.thawed
  replace D4z := D4.lt
  replace D4k := lt_add D4z
  replace D5 := D5.keep hkw8
  replace D5c := D5.cell
  replace D5f := D5.thawed
  replace D5z := D5.lt
  replace D5k := lt_add D5z
  replace D6 := D6.keep hkw8
  replace D6c := D6.cell
  replace D6f := D6.thawed
  replace D6z := D6.lt
  replace D6k := lt_add D6z
  replace D13 := D13.keep hkw8
  replace D13c := D13.cell
  replace D13f := D13.thawed
  replace D13z := D13.lt
  replace D13k := lt_add D13z
  replace D14 := D14.keep hkw8
  replace D14c := D14.cell
  replace D14f := D14.thawed
  replace D14z := D14.lt
  replace D14k := lt_add D14z
  replace D16 := D16.keep hkw8
  replace D16c := D16.cell
  replace D16f := D16.thawed
  replace D16z := D16.lt
  replace D16k := lt_add D16z
  replace D17 := D17.keep hkw8
  replace D17c := D17.cell
  replace D17f := D17.thawed
  replace D17z := D17.lt
  replace D17k := lt_add D17z
  replace x0 := x0.keep hkw8
  replace x1 := x1.keep hkw8
  replace x2 := x2.keep hkw8
  replace x3 := x3.keep hkw8
  replace x13 := x13.keep hkw8
  replace x14 := x14.keep hkw8
  have hsw8 := hkw8.size
  go_wp2_with fail
  refine (layBack_is ⟨_, _, _, _, _, _, _, _, _, _, rfl, x0, x1⟩ (MatAt.mk x2) (MatAt.mk x3) HB.out.back HB.out.is).mono ?_
  rintro e w9 ⟨v20, d20, rfl, ⟨a20, n20, k20, b20, o20, rfl, hn20, x20⟩, ⟨a21, n21, k21, b21, o21, a24, n24, k24, b24, o24, rfl, _, _, _, _⟩, hb9⟩
  have hkw9 : Below w8.heap.size w8 w9 := (by repeat (first | fail | (with_reducible exact Below.refl _ _) | (with_reducible refine Below.al ?_ _) | (with_reducible refine Below.drN ?_ _) | (with_reducible refine Below.drew ?_) | (with_reducible refine Below.st ?_ ?_ _; rotate_left 1; (first | (dsimp only; omega) | omega | (simp; omega) | simp)) | (with_reducible refine Below.go ?_ hb9) | exact Below.refl _ _))
  replace D4 := D4.keep hkw9
  replace D4c := D4.cell
  replace D4f := D4.thawed
  replace D4z := D4.lt
  replace D4k := lt_add D4z
  replace D5 := D5.keep hkw9
  replace D5c := D5.cell
  replace D5f := D5.thawed
  replace D5z := D5.lt
  replace D5k := lt_add D5z
  replace D6 := D6.keep hkw9
  replace D6c := D6.cell
  replace D6f := D6.thawed
  replace D6z := D6.lt
  replace D6k := lt_add D6z
  replace D13 := D13.keep hkw9
  replace D13c := D13.cell
  replace D13f := D13.thawed
  replace D13z := D13.lt
  replace D13k := lt_add D13z
  replace D14 := D14.keep hkw9
  replace D14c := D14.cell
  replace D14f := D14.thawed
  replace D14z := D14.lt
  replace D14k := lt_add D14z
  replace D16 := D16.keep hkw9
  replace D16c := D16.cell
  replace D16f := D16.thawed
  replace D16z := D16.lt
  replace D16k := lt_add D16z
  replace D17 := D17.keep hkw9
  replace D17c := D17.cell
  replace D17f := D17.thawed
  replace D17z := D17.lt
  replace D17k := lt_add D17z
  replace D18 := D18.keep hkw9
  replace D18c := D18.cell
  replace D18f := D18.thawed
  replace D18z := D18.lt
  replace D18k := lt_add D18z
  replace x0 := x0.keep hkw9
  replace x1 := x1.keep hkw9
  replace x2 := x2.keep hkw9
  replace x3 := x3.keep hkw9
  replace x13 := x13.keep hkw9
  replace x14 := x14.keep hkw9
  have hsw9 := hkw9.size
  go_wp2_with fail
  refine (matRows_new G _ 0 q _ (MatAt.mk (x3.alloc _ |>.alloc _)) HB.out.f1).mono ?_
  rw [HB.out.r1]
  rintro e w10 ⟨v22, rfl, ⟨a22, n22, k22, b22, o22, rfl, hn22, x22⟩, hb10⟩
  have D20 := ((show Box _ w9.heap.size [.int .i64 T.rows, .int .i64 T.cols, .slice a20 n20 k20] 31 from (by repeat (first | fail | (with_reducible refine (Box.new' _ (w9.heap.size) _ _ ?_); (simp; done)) | (with_reducible refine Box.alloc ?_ _) | (with_reducible refine Box.drewN ?_ _) | (with_reducible refine Box.drew ?_) | (with_reducible refine Box.far ?_ ?_ _; rotate_left 1; (first | (dsimp only; omega) | omega | (simp; omega) | simp)))))).keep hb10
  have D20c := D20.cell
  have D20f := D20.thawed
  have D20z := D20.lt
  have D20k := lt_add D20z
  have hkw10 : Below w9.heap.size w9 w10 := (by repeat (first | fail | (with_reducible exact Below.refl _ _) | (with_reducible refine Below.al ?_ _) | (with_reducible refine Below.drN ?_ _) | (with_reducible refine Below.drew ?_) | (with_reducible refine Below.st ?_ ?_ _; rotate_left 1; (first | (dsimp only; omega) | omega | (simp; omega) | simp)) | (with_reducible refine Below.go ?_ hb10) | exact Below.refl _ _))
  replace D4 := D4.keep hkw10
  replace D4c := D4.cell
  replace D4f := D4.thawed
  replace D4z := D4.lt
  replace D4k := lt_add D4z
  replace D5 := D5.keep hkw10
  replace D5c := D5.cell
  replace D5f := D5.thawed
  replace D5z := D5.lt
  replace D5k := lt_add D5z
  replace D6 := D6.keep hkw10
  replace D6c := D6.cell
  replace D6f := D6.thawed
  replace D6z := D6.lt
  replace D6k := lt_add D6z
  replace D13 := D13.keep hkw10
  replace D13c := D13.cell
  replace D13f := D13.thawed
  replace D13z := D13.lt
  replace D13k := lt_add D13z
  replace D14 := D14.keep hkw10
  replace D14c := D14.cell
  replace D14f := D14.thawed
  replace D14z := D14.lt
  replace D14k := lt_add D14z
  replace D16 := D16.keep hkw10
  replace D16c := D16.cell
  replace D16f := D16.thawed
  replace D16z := D16.lt
  replace D16k := lt_add D16z
  replace D17 := D17.keep hkw10
  replace D17c := D17.cell
  replace D17f := D17.thawed
  replace D17z := D17.lt
  replace D17k := lt_add D17z
  replace D18 := D18.keep hkw10
  replace D18c := D18.cell
  replace D18f := D18.thawed
  replace D18z := D18.lt
  replace D18k := lt_add D18z
  replace x0 := x0.keep hkw10
  replace x1 := x1.keep hkw10
  replace x2 := x2.keep hkw10
  replace x3 := x3.keep hkw10
  replace x13 := x13.keep hkw10
  replace x14 := x14.keep hkw10
  replace x20 := x20.keep hkw10
  have hsw10 := hkw10.size
  go_wp2_with fail
  refine (matRows_new G _ q G.rows _ (MatAt.mk (x3.alloc _)) HB.out.f2).mono ?_
  rw [HB.out.r2]
  rintro e w11 ⟨v23, rfl, ⟨a23, n23, k23, b23, o23, rfl, hn23, x23⟩, hb11⟩
  have D22 := (Box.new w10 [.int .i64 C.rows, .int .i64 C.cols, .slice a22 n22 k22] 31).keep hb11
  have D22c := D22.cell
  have D22f := D22.thawed
  have D22z := D22.lt
  have D22k := lt_add D22z
  have hkw11 : Below w10.heap.size w10 w11 := (by repeat (first | fail | (with_reducible exact Below.refl _ _) | (with_reducible refine Below.al ?_ _) | (with_reducible refine Below.drN ?_ _) | (with_reducible refine Below.drew ?_) | (with_reducible refine Below.st ?_ ?_ _; rotate_left 1; (first | (dsimp only; omega) | omega | (simp; omega) | simp)) | (with_reducible refine Below.go ?_ hb11) | exact Below.refl _ _))
  replace D4 := D4.keep hkw11
  replace D4c := D4.cell
  replace D4f := D4.thawed
  replace D4z := D4.lt
  replace D4k := lt_add D4z
  replace D5 := D5.keep hkw11
  replace D5c := D5.cell
  replace D5f := D5.thawed
  replace D5z := D5.lt
  replace D5k := lt_add D5z
  replace D6 := D6.keep hkw11
  replace D6c := D6.cell
  replace D6f := D6.thawed
  replace D6z := D6.lt
  replace D6k := lt_add D6z
  replace D13 := D13.keep hkw11
  replace D13c := D13.cell
  replace D13f := D13.thawed
  replace D13z := D13.lt
  replace D13k := lt_add D13z
  replace D14 := D14.keep hkw11
  replace D14c := D14.cell
  replace D14f := D14.thawed
  replace D14z := D14.lt
  replace D14k := lt_add D14z
  replace D16 := D16.keep hkw11
  replace D16c := D16.cell
  replace D16f := D16.thawed
  replace D16z := D16.lt
  replace D16k := lt_add D16z
  replace D17 := D17.keep hkw11
  replace D17c := D17.cell
  replace D17f := D17.thawed
  replace D17z := D17.lt
  replace D17k := lt_add D17z
  replace D18 := D18.keep hkw11
  replace D18c := D18.cell
  replace D18f := D18.thawed
  replace D18z := D18.lt
  replace D18k := lt_add D18z
  replace D20 := D20.keep hkw11
  replace D20c := D20.cell
  replace D20f := D20.thawed
  replace D20z := D20.lt
  replace D20k := lt_add D20z
  replace x0 := x0.keep hkw11
  replace x1 := x1.keep hkw11
  replace x13 := x13.keep hkw11
  replace x14 := x14.keep hkw11
  replace x20 := x20.keep hkw11
  replace x22 := x22.keep hkw11
  have hsw11 := hkw11.size
  have z14 : w4.heap.size < w5.heap.size := by have := hb5.size; simp at this; omega
  have z16 : w5.heap.size < w6.heap.size := by have := hb6.size; simp at this; omega
  have z17 : w6.heap.size < w7.heap.size := by have := hb7.size; simp at this; omega
  have z18 : w7.heap.size < w8.heap.size := by have := hb8.size; simp at this; omega
  have z9 : w8.heap.size ≤ w9.heap.size := by have := hb9.size; omega
  have z10 : w9.heap.size + 1 < w10.heap.size := by have := hb10.size; simp at this; omega
  have z11 : w10.heap.size < w11.heap.size := by have := hb11.size; simp at this; omega
  have z0 : w.heap.size < w5.heap.size := by have := hb1.size; have := hb2.size; have := hb3.size; have := hb4.size; have := hb5.size; simp at *; omega
  have l20 : 0 < n20 → w8.heap.size ≤ b20 := fun h => by have := hn20 h; omega
  have l23 : 0 < n23 → w10.heap.size + 1 ≤ b23 := fun h => by have := hn23 h; simp at this; omega
  go_wp2_with fail
  refine (layBack_is ⟨_, _, _, _, _, _, _, _, _, _, rfl, x0.alloc _, x1.alloc _⟩ (MatAt.mk (x13.alloc _)) (MatAt.mk (x22.alloc _)) HB.out.g1 HB.out.u1).mono ?_
  rintro e w12 ⟨v26, d26, rfl, ⟨a26, n26, k26, b26, o26, rfl, hn26, x26⟩, ⟨a31, n31, k31, b31, o31, a34, n34, k34, b34, o34, rfl, _, _, _, _⟩, hb12⟩
  have D23 := (Box.new w11 [.int .i64 D.rows, .int .i64 D.cols, .slice a23 n23 k23] 31).keep hb12
  have D23c := D23.cell
  have D23f := D23.thawed
  have D23z := D23.lt
  have D23k := lt_add D23z
  have hkw12 : Below w11.heap.size w11 w12 := (by repeat (first | fail | (with_reducible exact Below.refl _ _) | (with_reducible refine Below.al ?_ _) | (with_reducible refine Below.drN ?_ _) | (with_reducible refine Below.drew ?_) | (with_reducible refine Below.st ?_ ?_ _; rotate_left 1; (first | (dsimp only; omega) | omega | (simp; omega) | simp)) | (with_reducible refine Below.go ?_ hb12) | exact Below.refl _ _))
  replace D4 := D4.keep hkw12
  replace D4c := D4.cell
  replace D4f := D4.thawed
  replace D4z := D4.lt
  replace D4k := lt_add D4z
  replace D14 := D14.keep hkw12
  replace D14c := D14.cell
  replace D14f := D14.thawed
  replace D14z := D14.lt
  replace D14k := lt_add D14z
  replace D16 := D16.keep hkw12
  replace D16c := D16.cell
  replace D16f := D16.thawed
  replace D16z := D16.lt
  replace D16k := lt_add D16z
  replace D17 := D17.keep hkw12
  replace D17c := D17.cell
  replace D17f := D17.thawed
  replace D17z := D17.lt
  replace D17k := lt_add D17z
  replace D18 := D18.keep hkw12
  replace D18c := D18.cell
  replace D18f := D18.thawed
  replace D18z := D18.lt
  replace D18k := lt_add D18z
  replace D20 := D20.keep hkw12
  replace D20c := D20.cell
  replace D20f := D20.thawed
  replace D20z := D20.lt
  replace D20k := lt_add D20z
  replace x0 := x0.keep hkw12
  replace x1 := x1.keep hkw12
  replace x14 := x14.keep hkw12
  replace x20 := x20.keep hkw12
  replace x23 := x23.keep hkw12
  have hsw12 := hkw12.size
  have l26 : 0 < n26 → w11.heap.size ≤ b26 := fun h => by have := hn26 h; simp at this; omega
  have hbel12 : Below w.heap.size w w12 := (by repeat (first | fail | (with_reducible exact Below.refl _ _) | (with_reducible refine Below.al ?_ _) | (with_reducible refine Below.drN ?_ _) | (with_reducible refine Below.drew ?_) | (with_reducible refine Below.st ?_ ?_ _; rotate_left 1; (first | (dsimp only; omega) | omega | (simp; omega) | simp)) | (with_reducible refine Below.go ?_ hb12) | (with_reducible refine Below.go ?_ hb11) | (with_reducible refine Below.go ?_ hb10) | (with_reducible refine Below.go ?_ hb9) | (with_reducible refine Below.go ?_ hb8) | (with_reducible refine Below.go ?_ hb7) | (with_reducible refine Below.go ?_ hb6) | (with_reducible refine Below.go ?_ hb5) | (with_reducible refine Below.go ?_ hb4) | (with_reducible refine Below.go ?_ hb3) | (with_reducible refine Below.go ?_ hb2) | (with_reducible refine Below.go ?_ hb1) | exact Below.refl _ _))
  obtain ⟨wA, hqwA, TD4, TD14, TD23, TD17, TD18, TD20, TD16, tx0, tx1, tx14, tx20, tx23, tx26, hbwA⟩ : ∃ wA, (((w12.setCell ⟨w5.heap.size, 0, none⟩ (.int .i64 U2.rows)).setCell ⟨w5.heap.size, 1, none⟩ (.int .i64 U2.cols)).setCell ⟨w5.heap.size, 2, none⟩ (.slice a26 n26 k26)) = wA ∧ Box wA (w.heap.size) [.int .i64 l.kind, .int .i64 l.W.rows, .int .i64 l.W.cols, .slice a0 n0 k0, .int .i64 l.B.rows, .int .i64 l.B.cols, .slice a1 n1 k1] 48 ∧ Box wA (w4.heap.size) [.int .i64 B.rows, .int .i64 B.cols, .slice a14 n14 k14] 31 ∧ Box wA (w11.heap.size) [.int .i64 D.rows, .int .i64 D.cols, .slice a23 n23 k23] 31 ∧ Box wA (w6.heap.size) [.int .i64 V.rows, .int .i64 V.cols, .slice a17 n17 k17] 31 ∧ Box wA (w7.heap.size) [.int .i64 Y.rows, .int .i64 Y.cols, .slice a18 n18 k18] 31 ∧ Box wA (w9.heap.size) [.int .i64 T.rows, .int .i64 T.cols, .slice a20 n20 k20] 31 ∧ Box wA (w5.heap.size) [.int .i64 U2.rows, .int .i64 U2.cols, .slice a26 n26 k26] 31 ∧ IntsAt wA a0 n0 k0 b0 o0 l.W.cells ∧ IntsAt wA a1 n1 k1 b1 o1 l.B.cells ∧ IntsAt wA a14 n14 k14 b14 o14 B.cells ∧ IntsAt wA a20 n20 k20 b20 o20 T.cells ∧ IntsAt wA a23 n23 k23 b23 o23 D.cells ∧ IntsAt wA a26 n26 k26 b26 o26 U2.cells ∧ Below w.heap.size w wA :=
    ⟨_, rfl, (by repeat (first | fail | (with_reducible exact D4) | (with_reducible refine Box.alloc ?_ _) | (with_reducible refine Box.drewN ?_ _) | (with_reducible refine Box.drew ?_) | (with_reducible refine Box.far ?_ ?_ _; rotate_left 1; (first | (dsimp only; omega) | omega | (simp; omega) | simp)) | exact D4)), (by repeat (first | fail | (with_reducible exact D14) | (with_reducible refine Box.alloc ?_ _) | (with_reducible refine Box.drewN ?_ _) | (with_reducible refine Box.drew ?_) | (with_reducible refine Box.far ?_ ?_ _; rotate_left 1; (first | (dsimp only; omega) | omega | (simp; omega) | simp)) | exact D14)), (by repeat (first | fail | (with_reducible exact D23) | (with_reducible refine Box.alloc ?_ _) | (with_reducible refine Box.drewN ?_ _) | (with_reducible refine Box.drew ?_) | (with_reducible refine Box.far ?_ ?_ _; rotate_left 1; (first | (dsimp only; omega) | omega | (simp; omega) | simp)) | exact D23)), (by repeat (first | fail | (with_reducible exact D17) | (with_reducible refine Box.alloc ?_ _) | (with_reducible refine Box.drewN ?_ _) | (with_reducible refine Box.drew ?_) | (with_reducible refine Box.far ?_ ?_ _; rotate_left 1; (first | (dsimp only; omega) | omega | (simp; omega) | simp)) | exact D17)), (by repeat (first | fail | (with_reducible exact D18) | (with_reducible refine Box.alloc ?_ _) | (with_reducible refine Box.drewN ?_ _) | (with_reducible refine Box.drew ?_) | (with_reducible refine Box.far ?_ ?_ _; rotate_left 1; (first | (dsimp only; omega) | omega | (simp; omega) | simp)) | exact D18)), (by repeat (first | fail | (with_reducible exact D20) | (with_reducible refine Box.alloc ?_ _) | (with_reducible refine Box.drewN ?_ _) | (with_reducible refine Box.drew ?_) | (with_reducible refine Box.far ?_ ?_ _; rotate_left 1; (first | (dsimp only; omega) | omega | (simp; omega) | simp)) | exact D20)), ((D16.set 0 _).set 1 _).set 2 _, (by repeat (first | fail | (with_reducible exact x0) | (with_reducible refine IntsAt.alloc ?_ _) | (with_reducible refine IntsAt.drewN ?_ _) | (with_reducible refine IntsAt.drew ?_) | (with_reducible refine IntsAt.set ?_ ?_ _; rotate_left 1; (intro h0; have hq0 := l0 h0; first | (dsimp only; omega) | omega | (simp; omega) | simp)) | exact x0)), (by repeat (first | fail | (with_reducible exact x1) | (with_reducible refine IntsAt.alloc ?_ _) | (with_reducible refine IntsAt.drewN ?_ _) | (with_reducible refine IntsAt.drew ?_) | (with_reducible refine IntsAt.set ?_ ?_ _; rotate_left 1; (intro h0; have hq0 := l1 h0; first | (dsimp only; omega) | omega | (simp; omega) | simp)) | exact x1)), (by repeat (first | fail | (with_reducible exact x14) | (with_reducible refine IntsAt.alloc ?_ _) | (with_reducible refine IntsAt.drewN ?_ _) | (with_reducible refine IntsAt.drew ?_) | (with_reducible refine IntsAt.set ?_ ?_ _; rotate_left 1; (intro h0; have hq0 := l14 h0; first | (dsimp only; omega) | omega | (simp; omega) | simp)) | exact x14)), (by repeat (first | fail | (with_reducible exact x20) | (with_reducible refine IntsAt.alloc ?_ _) | (with_reducible refine IntsAt.drewN ?_ _) | (with_reducible refine IntsAt.drew ?_) | (with_reducible refine IntsAt.set ?_ ?_ _; rotate_left 1; (intro h0; have hq0 := l20 h0; first | (dsimp only; omega) | omega | (simp; omega) | simp)) | exact x20)), (by repeat (first | fail | (with_reducible exact x23) | (with_reducible refine IntsAt.alloc ?_ _) | (with_reducible refine IntsAt.drewN ?_ _) | (with_reducible refine IntsAt.drew ?_) | (with_reducible refine IntsAt.set ?_ ?_ _; rotate_left 1; (intro h0; have hq0 := l23 h0; first | (dsimp only; omega) | omega | (simp; omega) | simp)) | exact x23)), (by repeat (first | fail | (with_reducible exact x26) | (with_reducible refine IntsAt.alloc ?_ _) | (with_reducible refine IntsAt.drewN ?_ _) | (with_reducible refine IntsAt.drew ?_) | (with_reducible refine IntsAt.set ?_ ?_ _; rotate_left 1; (intro h0; have hq0 := l26 h0; first | (dsimp only; omega) | omega | (simp; omega) | simp)) | exact x26)), (by repeat (first | fail | (with_reducible exact Below.refl _ _) | (with_reducible exact hbel12) | (with_reducible refine Below.al ?_ _) | (with_reducible refine Below.drN ?_ _) | (with_reducible refine Below.drew ?_) | (with_reducible refine Below.st ?_ ?_ _; rotate_left 1; (first | (dsimp only; omega) | omega | (simp; omega) | simp)) | exact Below.refl _ _ | exact hbel12))⟩
  have TD4 := TD4
  have TD4c := TD4.cell
  have TD4f := TD4.thawed
  have TD4z := TD4.lt
  have TD4k := lt_add TD4z
  have TD14 := TD14
  have TD14c := TD14.cell
  have TD14f := TD14.thawed
  have TD14z := TD14.lt
  have TD14k := lt_add TD14z
  have TD23 := TD23
  have TD23c := TD23.cell
  have TD23f := TD23.thawed
  have TD23z := TD23.lt
  have TD23k := lt_add TD23z
  have TD17 := TD17
  have TD17c := TD17.cell
  have TD17f := TD17.thawed
  have TD17z := TD17.lt
  have TD17k := lt_add TD17z
  have TD18 := TD18
  have TD18c := TD18.cell
  have TD18f := TD18.thawed
  have TD18z := TD18.lt
  have TD18k := lt_add TD18z
  have TD20 := TD20
  have TD20c := TD20.cell
  have TD20f := TD20.thawed
  have TD20z := TD20.lt
  have TD20k := lt_add TD20z
  have TD16 := TD16
  have TD16c := TD16.cell
  have TD16f := TD16.thawed
  have TD16z := TD16.lt
  have TD16k := lt_add TD16z
  go_wp2_with fail
  clear D4 D4c D4f D4z D4k D14 D14c D14f D14z D14k D23 D23c D23f D23z D23k D17 D17c D17f D17z D17k D18 D18c D18f D18z D18k D20 D20c D20f D20z D20k D16 D16c D16f D16z D16k x0 x1 x14 x20 x23 x26
  have D4 := TD4
  have D4c := D4.cell
  have D4f := D4.thawed
  have D4z := D4.lt
  have D4k := lt_add D4z
  have D14 := TD14
  have D14c := D14.cell
  have D14f := D14.thawed
  have D14z := D14.lt
  have D14k := lt_add D14z
  have D23 := TD23
  have D23c := D23.cell
  have D23f := D23.thawed
  have D23z := D23.lt
  have D23k := lt_add D23z
  have D17 := TD17
  have D17c := D17.cell
  have D17f := D17.thawed
  have D17z := D17.lt
  have D17k := lt_add D17z
  have D18 := TD18
  have D18c := D18.cell
  have D18f := D18.thawed
  have D18z := D18.lt
  have D18k := lt_add D18z
  have D20 := TD20
  have D20c := D20.cell
  have D20f := D20.thawed
  have D20z := D20.lt
  have D20k := lt_add D20z
  have D16 := TD16
  have D16c := D16.cell
  have D16f := D16.thawed
  have D16z := D16.lt
  have D16k := lt_add D16z
  have x0 := tx0
  have x1 := tx1
  have x14 := tx14
  have x20 := tx20
  have x23 := tx23
  have x26 := tx26
  clear TD4 TD4c TD4f TD4z TD4k TD14 TD14c TD14f TD14z TD14k TD23 TD23c TD23f TD23z TD23k TD17 TD17c TD17f TD17z TD17k TD18 TD18c TD18f TD18z TD18k TD20 TD20c TD20f TD20z TD20k TD16 TD16c TD16f TD16z TD16k tx0 tx1 tx14 tx20 tx23 tx26
  refine (layBack_is ⟨_, _, _, _, _, _, _, _, _, _, rfl, x0, x1⟩ (MatAt.mk x14) (MatAt.mk x23) HB.out.g2 HB.out.u2).mono ?_
  rintro e w21 ⟨v27, d27, rfl, ⟨a27, n27, k27, b27, o27, rfl, hn27, x27⟩, ⟨a41, n41, k41, b41, o41, a44, n44, k44, b44, o44, rfl, _, _, _, _⟩, hb21⟩
  have hkw21 : Below wA.heap.size wA w21 := (by repeat (first | fail | (with_reducible exact Below.refl _ _) | (with_reducible refine Below.al ?_ _) | (with_reducible refine Below.drN ?_ _) | (with_reducible refine Below.drew ?_) | (with_reducible refine Below.st ?_ ?_ _; rotate_left 1; (first | (dsimp only; omega) | omega | (simp; omega) | simp)) | (with_reducible refine Below.go ?_ hb21) | exact Below.refl _ _))
  replace D16 := D16.keep hkw21
  replace D16c := D16.cell
  replace D16f := D16.thawed
  replace D16z := D16.lt
  replace D16k := lt_add D16z
  replace D17 := D17.keep hkw21
  replace D17c := D17.cell
  replace D17f := D17.thawed
  replace D17z := D17.lt
  replace D17k := lt_add D17z
  replace D18 := D18.keep hkw21
  replace D18c := D18.cell
  replace D18f := D18.thawed
  replace D18z := D18.lt
  replace D18k := lt_add D18z
  replace D20 := D20.keep hkw21
  replace D20c := D20.cell
  replace D20f := D20.thawed
  replace D20z := D20.lt
  replace D20k := lt_add D20z
  replace x20 := x20.keep hkw21
  replace x26 := x26.keep hkw21
  have hsw21 := hkw21.size
  have zA : w12.heap.size ≤ wA.heap.size := by rw [← hqwA]; simp [World.setCell]
  have z12 : w11.heap.size < w12.heap.size := by have := hb12.size; simp at this; omega
  have l27 : 0 < n27 → wA.heap.size ≤ b27 := hn27
  have hbel21 : Below w.heap.size w w21 := (by repeat (first | fail | (with_reducible exact Below.refl _ _) | (with_reducible exact hbwA) | (with_reducible refine Below.al ?_ _) | (with_reducible refine Below.drN ?_ _) | (with_reducible refine Below.drew ?_) | (with_reducible refine Below.st ?_ ?_ _; rotate_left 1; (first | (dsimp only; omega) | omega | (simp; omega) | simp)) | (with_reducible refine Below.go ?_ hb21) | exact Below.refl _ _ | exact hbwA))
  obtain ⟨wB, hqwB, TD16, TD17, TD18, TD20, tx20, tx26, tx27, hbwB⟩ : ∃ wB, (((w21.setCell ⟨w6.heap.size, 0, none⟩ (.int .i64 V2.rows)).setCell ⟨w6.heap.size, 1, none⟩ (.int .i64 V2.cols)).setCell ⟨w6.heap.size, 2, none⟩ (.slice a27 n27 k27)) = wB ∧ Box wB (w5.heap.size) [.int .i64 U2.rows, .int .i64 U2.cols, .slice a26 n26 k26] 31 ∧ Box wB (w6.heap.size) [.int .i64 V2.rows, .int .i64 V2.cols, .slice a27 n27 k27] 31 ∧ Box wB (w7.heap.size) [.int .i64 Y.rows, .int .i64 Y.cols, .slice a18 n18 k18] 31 ∧ Box wB (w9.heap.size) [.int .i64 T.rows, .int .i64 T.cols, .slice a20 n20 k20] 31 ∧ IntsAt wB a20 n20 k20 b20 o20 T.cells ∧ IntsAt wB a26 n26 k26 b26 o26 U2.cells ∧ IntsAt wB a27 n27 k27 b27 o27 V2.cells ∧ Below w.heap.size w wB :=
    ⟨_, rfl, (by repeat (first | fail | (with_reducible exact D16) | (with_reducible refine Box.alloc ?_ _) | (with_reducible refine Box.drewN ?_ _) | (with_reducible refine Box.drew ?_) | (with_reducible refine Box.far ?_ ?_ _; rotate_left 1; (first | (dsimp only; omega) | omega | (simp; omega) | simp)) | exact D16)), ((D17.set 0 _).set 1 _).set 2 _, (by repeat (first | fail | (with_reducible exact D18) | (with_reducible refine Box.alloc ?_ _) | (with_reducible refine Box.drewN ?_ _) | (with_reducible refine Box.drew ?_) | (with_reducible refine Box.far ?_ ?_ _; rotate_left 1; (first | (dsimp only; omega) | omega | (simp; omega) | simp)) | exact D18)), (by repeat (first | fail | (with_reducible exact D20) | (with_reducible refine Box.alloc ?_ _) | (with_reducible refine Box.drewN ?_ _) | (with_reducible refine Box.drew ?_) | (with_reducible refine Box.far ?_ ?_ _; rotate_left 1; (first | (dsimp only; omega) | omega | (simp; omega) | simp)) | exact D20)), (by repeat (first | fail | (with_reducible exact x20) | (with_reducible refine IntsAt.alloc ?_ _) | (with_reducible refine IntsAt.drewN ?_ _) | (with_reducible refine IntsAt.drew ?_) | (with_reducible refine IntsAt.set ?_ ?_ _; rotate_left 1; (intro h0; have hq0 := l20 h0; first | (dsimp only; omega) | omega | (simp; omega) | simp)) | exact x20)), (by repeat (first | fail | (with_reducible exact x26) | (with_reducible refine IntsAt.alloc ?_ _) | (with_reducible refine IntsAt.drewN ?_ _) | (with_reducible refine IntsAt.drew ?_) | (with_reducible refine IntsAt.set ?_ ?_ _; rotate_left 1; (intro h0; have hq0 := l26 h0; first | (dsimp only; omega) | omega | (simp; omega) | simp)) | exact x26)), (by repeat (first | fail | (with_reducible exact x27) | (with_reducible refine IntsAt.alloc ?_ _) | (with_reducible refine IntsAt.drewN ?_ _) | (with_reducible refine IntsAt.drew ?_) | (with_reducible refine IntsAt.set ?_ ?_ _; rotate_left 1; (intro h0; have hq0 := l27 h0; first | (dsimp only; omega) | omega | (simp; omega) | simp)) | exact x27)), (by repeat (first | fail | (with_reducible exact Below.refl _ _) | (with_reducible exact hbel21) | (with_reducible refine Below.al ?_ _) | (with_reducible refine Below.drN ?_ _) | (with_reducible refine Below.drew ?_) | (with_reducible refine Below.st ?_ ?_ _; rotate_left 1; (first | (dsimp only; omega) | omega | (simp; omega) | simp)) | exact Below.refl _ _ | exact hbel21))⟩
  have TD16 := TD16
  have TD16c := TD16.cell
  have TD16f := TD16.thawed
  have TD16z := TD16.lt
  have TD16k := lt_add TD16z
  have TD17 := TD17
  have TD17c := TD17.cell
  have TD17f := TD17.thawed
  have TD17z := TD17.lt
  have TD17k := lt_add TD17z
  have TD18 := TD18
  have TD18c := TD18.cell
  have TD18f := TD18.thawed
  have TD18z := TD18.lt
  have TD18k := lt_add TD18z
  have TD20 := TD20
  have TD20c := TD20.cell
  have TD20f := TD20.thawed
  have TD20z := TD20.lt
  have TD20k := lt_add TD20z
  go_wp2_with fail
  clear D16 D16c D16f D16z D16k D17 D17c D17f D17z D17k D18 D18c D18f D18z D18k D20 D20c D20f D20z D20k x20 x26 x27
  have D16 := TD16
  have D16c := D16.cell
  have D16f := D16.thawed
  have D16z := D16.lt
  have D16k := lt_add D16z
  have D17 := TD17
  have D17c := D17.cell
  have D17f := D17.thawed
  have D17z := D17.lt
  have D17k := lt_add D17z
  have D18 := TD18
  have D18c := D18.cell
  have D18f := D18.thawed
  have D18z := D18.lt
  have D18k := lt_add D18z
  have D20 := TD20
  have D20c := D20.cell
  have D20f := D20.thawed
  have D20z := D20.lt
  have D20k := lt_add D20z
  have x20 := tx20
  have x26 := tx26
  have x27 := tx27
  clear TD16 TD16c TD16f TD16z TD16k TD17 TD17c TD17f TD17z TD17k TD18 TD18c TD18f TD18z TD18k TD20 TD20c TD20f TD20z TD20k tx20 tx26 tx27
  refine (matStack_any _ 2 2 wB.heap.size 0 [U2, V2] _ (mats2 (Box.new' _ _ _ _ (by simp)) (x26.alloc _) (x27.alloc _)) (by omega) HB.out.first (by omega)).mono ?_
  rintro e w31 ⟨hst, _, hb31⟩
  obtain ⟨v28, rfl, hm28⟩ := hst HB.out.st
  clear hst
  rw [HB.out.whole] at hm28
  obtain ⟨a28, n28, k28, b28, o28, rfl, hn28, x28⟩ := hm28
  have hkw31 : Below wB.heap.size wB w31 := (by repeat (first | fail | (with_reducible exact Below.refl _ _) | (with_reducible refine Below.al ?_ _) | (with_reducible refine Below.drN ?_ _) | (with_reducible refine Below.drew ?_) | (with_reducible refine Below.st ?_ ?_ _; rotate_left 1; (first | (dsimp only; omega) | omega | (simp; omega) | simp)) | (with_reducible refine Below.go ?_ hb31) | exact Below.refl _ _))
  replace D18 := D18.keep hkw31
  replace D18c := D18.cell
  replace D18f := D18.thawed
  replace D18z := D18.lt
  replace D18k := lt_add D18z
  replace D20 := D20.keep hkw31
  replace D20c := D20.cell
  replace D20f := D20.thawed
  replace D20z := D20.lt
  replace D20k := lt_add D20z
  replace x20 := x20.keep hkw31
  have hsw31 := hkw31.size
  have zB : w21.heap.size ≤ wB.heap.size := by rw [← hqwB]; simp [World.setCell]
  have z21 : wA.heap.size ≤ w21.heap.size := hb21.size
  have l28 : 0 < n28 → wB.heap.size ≤ b28 := fun h => by have := hn28 h; simp at this; omega
  have hbel31 : Below w.heap.size w w31 := (by repeat (first | fail | (with_reducible exact Below.refl _ _) | (with_reducible exact hbwB) | (with_reducible refine Below.al ?_ _) | (with_reducible refine Below.drN ?_ _) | (with_reducible refine Below.drew ?_) | (with_reducible refine Below.st ?_ ?_ _; rotate_left 1; (first | (dsimp only; omega) | omega | (simp; omega) | simp)) | (with_reducible refine Below.go ?_ hb31) | exact Below.refl _ _ | exact hbwB))
  obtain ⟨wC, hqwC, TD18, TD20, tx20, tx28, hbwC⟩ : ∃ wC, (((w31.setCell ⟨w7.heap.size, 0, none⟩ (.int .i64 T.rows)).setCell ⟨w7.heap.size, 1, none⟩ (.int .i64 T.cols)).setCell ⟨w7.heap.size, 2, none⟩ (.slice a28 n28 k28)) = wC ∧ Box wC (w7.heap.size) [.int .i64 T.rows, .int .i64 T.cols, .slice a28 n28 k28] 31 ∧ Box wC (w9.heap.size) [.int .i64 T.rows, .int .i64 T.cols, .slice a20 n20 k20] 31 ∧ IntsAt wC a20 n20 k20 b20 o20 T.cells ∧ IntsAt wC a28 n28 k28 b28 o28 T.cells ∧ Below w.heap.size w wC :=
    ⟨_, rfl, ((D18.set 0 _).set 1 _).set 2 _, (by repeat (first | fail | (with_reducible exact D20) | (with_reducible refine Box.alloc ?_ _) | (with_reducible refine Box.drewN ?_ _) | (with_reducible refine Box.drew ?_) | (with_reducible refine Box.far ?_ ?_ _; rotate_left 1; (first | (dsimp only; omega) | omega | (simp; omega) | simp)) | exact D20)), (by repeat (first | fail | (with_reducible exact x20) | (with_reducible refine IntsAt.alloc ?_ _) | (with_reducible refine IntsAt.drewN ?_ _) | (with_reducible refine IntsAt.drew ?_) | (with_reducible refine IntsAt.set ?_ ?_ _; rotate_left 1; (intro h0; have hq0 := l20 h0; first | (dsimp only; omega) | omega | (simp; omega) | simp)) | exact x20)), (by repeat (first | fail | (with_reducible exact x28) | (with_reducible refine IntsAt.alloc ?_ _) | (with_reducible refine IntsAt.drewN ?_ _) | (with_reducible refine IntsAt.drew ?_) | (with_reducible refine IntsAt.set ?_ ?_ _; rotate_left 1; (intro h0; have hq0 := l28 h0; first | (dsimp only; omega) | omega | (simp; omega) | simp)) | exact x28)), (by repeat (first | fail | (with_reducible exact Below.refl _ _) | (with_reducible exact hbel31) | (with_reducible refine Below.al ?_ _) | (with_reducible refine Below.drN ?_ _) | (with_reducible refine Below.drew ?_) | (with_reducible refine Below.st ?_ ?_ _; rotate_left 1; (first | (dsimp only; omega) | omega | (simp; omega) | simp)) | exact Below.refl _ _ | exact hbel31))⟩
  have TD18 := TD18
  have TD18c := TD18.cell
  have TD18f := TD18.thawed
  have TD18z := TD18.lt
  have TD18k := lt_add TD18z
  have TD20 := TD20
  have TD20c := TD20.cell
  have TD20f := TD20.thawed
  have TD20z := TD20.lt
  have TD20k := lt_add TD20z
  go_wp2_with fail
  clear D18 D18c D18f D18z D18k D20 D20c D20f D20z D20k x20 x28
  have D18 := TD18
  have D18c := D18.cell
  have D18f := D18.thawed
  have D18z := D18.lt
  have D18k := lt_add D18z
  have D20 := TD20
  have D20c := D20.cell
  have D20f := D20.thawed
  have D20z := D20.lt
  have D20k := lt_add D20z
  have x20 := tx20
  have x28 := tx28
  clear TD18 TD18c TD18f TD18z TD18k TD20 TD20c TD20f TD20z TD20k tx20 tx28
  refine (matrices_same T _ _ _ (MatAt.mk x28) (MatAt.mk x20)).mono ?_
  rintro e w41 ⟨rfl, hb41⟩
  go_wp2
  go_ret
  exact ⟨rfl, (by repeat (first | fail | (with_reducible exact Below.refl _ _) | (with_reducible exact hbwC) | (with_reducible refine Below.al ?_ _) | (with_reducible refine Below.drN ?_ _) | (with_reducible refine Below.drew ?_) | (with_reducible refine Below.st ?_ ?_ _; rotate_left 1; (first | (dsimp only; omega) | omega | (simp; omega) | simp)) | (with_reducible refine Below.go ?_ hb41) | exact Below.refl _ _ | exact hbwC))⟩
end
theorem walk (l : Lay) (vl : Value) (x : Mat) (vx : Value) (g : Mat) (vg : Value) (c : Int) (w : World) (hl : LayAt w vl l) (hx : MatAt w vx x) (hg : MatAt w vg g) (hcw : (Lit.int .i64 c).wf = true) :
    Calls Try.prog 11 #[vl, vx, vg, .int .i64 c] w fun e w' => e = .returned (.bool true) ∧ Below w.heap.size w w' := by
  obtain ⟨a, n, k, b, o, a', n', k', b', o', rfl, x0, x1⟩ := hl
  obtain ⟨a2, n2, k2, b2, o2, rfl, x2⟩ := hx
  obtain ⟨a3, n3, k3, b3, o3, rfl, x3⟩ := hg
  have hc := bounds_i64 hcw
  by_cases hf : l.goFault x = 0
  · obtain ⟨_, fx, _⟩ := Lay.goFault_ok hf
    obtain ⟨R, K, xs, rfl, hR, hK, hlen, hin⟩ := mat_form fx
    obtain ⟨q, hq, hqR⟩ := pick_is (c := c) (R := R)
    obtain ⟨g1, g2, s1, s2⟩ := go_parts hqR hf
    have hcut : Cut l ⟨R, K, xs⟩ (topOf R K xs q) (botOf R K xs q) _ _ _ q := ⟨hf, rfl, rowsFault_top hqR hlen fx, rows_top hqR hlen, rowsFault_bot hqR hlen fx, rows_bot hqR hlen, g1, rfl, g2, rfl, firstFault_two.2 ⟨go_fault g1, go_fault g2⟩, s1, s2⟩
    by_cases hb : l.backFault ⟨R, K, xs⟩ g = 0
    · obtain ⟨_, fg, hgr, _, _⟩ := Lay.backFault_ok hb
      obtain ⟨R', C, ys, rfl, hR', hC, hlen', hin'⟩ := mat_form fg
      dsimp only at hgr
      obtain rfl : R' = R := by omega
      obtain ⟨d1, d2, d3, d4⟩ := back_parts hqR hb
      exact walk3 l _ _ c _ _ _ _ _ _ _ _ _ _ _ _ _ _ _ _ _ _ _ _ w x0 x1 x2 x3 hc _ _ _ _ _ _ hq (Int.natCast_nonneg _) (by show (R' : Int) ≤ 24; omega) hcut _ _ _ _ _ ⟨hb, rfl, rowsFault_top hqR hlen' fg, rows_top hqR hlen', rowsFault_bot hqR hlen' fg, rows_bot hqR hlen', d1, rfl, d2, rfl, firstFault_two.2 ⟨(back_fault d1).1, (back_fault d2).1⟩, d3, d4⟩
    · exact walk2 l _ g c _ _ _ _ _ _ _ _ _ _ _ _ _ _ _ _ _ _ _ _ w x0 x1 x2 x3 hc _ _ _ _ _ _ hq (Int.natCast_nonneg _) (by show (R : Int) ≤ 24; omega) hcut hb
  · exact walk1 l x g c _ _ _ _ _ _ _ _ _ _ _ _ _ _ _ _ _ _ _ _ w x0 x1 x2 x3 hc hf

theorem own : ownKnob Try.prog.godebug = none := by kernel_rfl
theorem laidOut : laidOutB Try.prog = true := by kernel_rfl
set_option maxRecDepth 100000 in
theorem lifted (os : Os) (started : os.Started) (H : Type) (enc : TypeId × Value → H) :
    ReturnsInHanded {} Try.checked os 11 .any (Rows.layerRowsSpec.pre6 enc Try.prog Try.f11 Rows.layerRowsRow.domain false) (Rows.layerRowsSpec.post enc Try.prog Try.f11 false true false false) := by
  refine returnsInHanded_of_change (C := Try.checked) own started (by kernel_rfl) Try.func11
    (ChangeSpec.witness6 (enc := enc) (C := Try.checked) false ⟨#[], #[.agg #[.int .i64 0, .int .i64 0, .int .i64 0, .slice none 0 0, .int .i64 0, .int .i64 0, .slice none 0 0], .agg #[.int .i64 0, .int .i64 0, .slice none 0 0], .agg #[.int .i64 0, .int .i64 0, .slice none 0 0], .int .i64 0], []⟩ 8 (by kernel_rfl) (by kernel_rfl) (by kernel_rfl) (by kernel_rfl)) ?_
  intro W base args ds gs before hval0 hW hcnd hsz
  have hval : ∀ (j : Nat) t v, Try.f11.params[j]? = some t → args[j]? = some v → Value.okWide Try.prog W .any base t v := hval0
  have hW' := hW
  obtain ⟨p, q, hA0, hV, rfl, hfz, hnd⟩ := hW
  have hA : DataW.TrodAll enc Try.prog W 0 (fun _ => true) true Try.f11.params.toList args.toList ds p := hA0
  rw [Try.params11] at hA hval
  obtain ⟨v0, vs0, d0, ds0, p0, q0, hargs, rfl, rfl, h0, r0⟩ := trodAll_cons hA
  obtain ⟨v1, vs1, d1, ds1, p1, q1, rfl, rfl, rfl, h1, r1⟩ := trodAll_cons r0
  obtain ⟨v2, vs2, d2, ds2, p2, q2, rfl, rfl, rfl, h2, r2⟩ := trodAll_cons r1
  obtain ⟨v3, vs3, d3, ds3, p3, q3, rfl, rfl, rfl, h3, r3⟩ := trodAll_cons r2
  obtain ⟨rfl, rfl, rfl⟩ := trodAll_nil r3
  obtain rfl : args = #[v0, v1, v2, v3] := by cases args; simp_all
  obtain ⟨rfl, rfl⟩ := trodVars_none hV
  have k0 := h0
  have lt0 : ∀ x ∈ p0, x.block < W.heap.size := by obtain ⟨m, hm⟩ := k0; exact DataW.trod_lt m _ _ _ hm
  have k1 := h1
  have lt1 : ∀ x ∈ p1, x.block < W.heap.size := by obtain ⟨m, hm⟩ := k1; exact DataW.trod_lt m _ _ _ hm
  have k2 := h2
  have lt2 : ∀ x ∈ p2, x.block < W.heap.size := by obtain ⟨m, hm⟩ := k2; exact DataW.trod_lt m _ _ _ hm
  have k3 := h3
  have lt3 : ∀ x ∈ p3, x.block < W.heap.size := by obtain ⟨m, hm⟩ := k3; exact DataW.trod_lt m _ _ _ hm
  obtain ⟨a0, w0⟩ := open_Layer (hval 0 48 v0 rfl rfl) h0
  obtain ⟨a1, w1⟩ := open_mat (hval 1 31 v1 rfl rfl) h1
  obtain ⟨a2, w2⟩ := open_mat (hval 2 31 v2 rfl rfl) h2
  obtain ⟨a3, rfl, rfl, rfl, w3⟩ := open_int Try.underlying3 (hval 3 3 v3 rfl rfl) h3
  clear hA0 hval0
  refine (walk a0 v0 a1 v1 a2 v2 a3 W w0 w1 w2 w3).mono fun e W' ⟨he, bel⟩ => ?_
  subst he
  exact ⟨_, rfl, _, _, _, [], _, [], hW', trodAll_mk1 (shut_bool Try.underlying4 _), (trodAll_cons_mk (Below.trod laidOut (by kernel_rfl) (of_decide_eq_true (by kernel_rfl)) k0 bel lt0) (trodAll_cons_mk (Below.trod laidOut (by kernel_rfl) (of_decide_eq_true (by kernel_rfl)) k1 bel lt1) (trodAll_cons_mk (Below.trod laidOut (by kernel_rfl) (of_decide_eq_true (by kernel_rfl)) k2 bel lt2) (trodAll_cons_mk (Below.trod laidOut (by kernel_rfl) (of_decide_eq_true (by kernel_rfl)) k3 bel lt3) trodAll_mk0)))), rfl, bel.frame _, fun h => by cases h⟩

theorem proved : Rows.LayerRowsSaid :=
  OpenClaim.holds_of_wide 11 Try.f11 rfl rfl rfl rfl rfl rfl rfl ⟨rfl, rfl, rfl, rfl, rfl⟩ rfl rfl rfl rfl rfl (by kernel_rfl) Try.func11 (by kernel_rfl)
    (of_decide_eq_true (by kernel_rfl)) (by unfold Func.isWrapper; first | (rw [if_pos (by decide +kernel)]; kernel_rfl) | (rw [if_neg (by decide +kernel)]; exact ⟨rfl, rfl⟩))
    (fun os started H enc _ => lifted os started H enc)
#print axioms proved

end Go.Proofs.Ytlfeijffjpjnnaa.lawLayerRows
