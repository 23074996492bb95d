/- LayerUnit: a layer that does nothing gives back what goes back: a matrix of ones on its diagonal, a scale of 1, a shift of nought: the law returns true, and the input reads as it did. No condition. -/
import Derived.Test.YtlfeijffjpjnnaaRows
import Derived.Test.YtlfeijffjpjnnaaLayFact
import Derived.Test.YtlfeijffjpjnnaaUni
import Derived.Test.YtlfeijffjpjnnaaBlank
import Derived.Test.YtlfeijffjpjnnaaOpen
import Derived.Deep.DeepCutAuto
import Derived.Deep.RegionHeld3
set_option linter.unusedVariables false
set_option linter.unusedSimpArgs false
set_option linter.unusedSectionVars false
namespace Gal
open Go Go.RowKit
section
variable {w : World} {sb b c : Nat} {t u s : TypeId} {v0 v1 v2 v3 v4 v5 v6 v7 v8 v9 v10 v11 v12 v13 v14 v15 v16 v17 v18 v19 v20 x y z x' y' z' : Value}
theorem unit10_0 (h : Box w sb [v0, v1, v2, v3, v4, v5, v6, v7, v8, v9, v10, v11, v12, v13, v14, v15, v16, v17, v18, v19, v20] t) (m : Box w b [x, y, z] u) : w.cell? ⟨sb, 0, none⟩ = some v0 ∧ w.cell? ⟨sb, 1, none⟩ = some v1 ∧ w.cell? ⟨sb, 2, none⟩ = some v2 ∧ w.cell? ⟨sb, 3, none⟩ = some v3 ∧ w.cell? ⟨sb, 4, none⟩ = some v4 ∧ w.cell? ⟨sb, 5, none⟩ = some v5 ∧ w.cell? ⟨sb, 6, none⟩ = some v6 ∧ w.cell? ⟨b, 0, none⟩ = some x ∧ w.cell? ⟨b, 1, none⟩ = some y ∧ w.cell? ⟨b, 2, none⟩ = some z := ⟨h.cell 0, h.cell 1, h.cell 2, h.cell 3, h.cell 4, h.cell 5, h.cell 6, m.cell 0, m.cell 1, m.cell 2⟩
theorem unit13_0 (h : Box w sb [v0, v1, v2, v3, v4, v5, v6, v7, v8, v9, v10, v11, v12, v13, v14, v15, v16, v17, v18, v19, v20] t) (m : Box w b [x, y, z] u) (n : Box w c [x', y', z'] s) : w.cell? ⟨sb, 0, none⟩ = some v0 ∧ w.cell? ⟨sb, 1, none⟩ = some v1 ∧ w.cell? ⟨sb, 2, none⟩ = some v2 ∧ w.cell? ⟨sb, 3, none⟩ = some v3 ∧ w.cell? ⟨sb, 4, none⟩ = some v4 ∧ w.cell? ⟨sb, 5, none⟩ = some v5 ∧ w.cell? ⟨sb, 6, none⟩ = some v6 ∧ w.cell? ⟨b, 0, none⟩ = some x ∧ w.cell? ⟨b, 1, none⟩ = some y ∧ w.cell? ⟨b, 2, none⟩ = some z ∧ w.cell? ⟨c, 0, none⟩ = some x' ∧ w.cell? ⟨c, 1, none⟩ = some y' ∧ w.cell? ⟨c, 2, none⟩ = some z' := ⟨h.cell 0, h.cell 1, h.cell 2, h.cell 3, h.cell 4, h.cell 5, h.cell 6, m.cell 0, m.cell 1, m.cell 2, n.cell 0, n.cell 1, n.cell 2⟩
theorem unit10_1 (h : Box w sb [v0, v1, v2, v3, v4, v5, v6, v7, v8, v9, v10, v11, v12, v13, v14, v15, v16, v17, v18, v19, v20] t) (m : Box w b [x, y, z] u) : w.cell? ⟨sb, 7, none⟩ = some v7 ∧ w.cell? ⟨sb, 8, none⟩ = some v8 ∧ w.cell? ⟨sb, 9, none⟩ = some v9 ∧ w.cell? ⟨sb, 10, none⟩ = some v10 ∧ w.cell? ⟨sb, 11, none⟩ = some v11 ∧ w.cell? ⟨sb, 12, none⟩ = some v12 ∧ w.cell? ⟨sb, 13, none⟩ = some v13 ∧ w.cell? ⟨b, 0, none⟩ = some x ∧ w.cell? ⟨b, 1, none⟩ = some y ∧ w.cell? ⟨b, 2, none⟩ = some z := ⟨h.cell 7, h.cell 8, h.cell 9, h.cell 10, h.cell 11, h.cell 12, h.cell 13, m.cell 0, m.cell 1, m.cell 2⟩
theorem unit13_1 (h : Box w sb [v0, v1, v2, v3, v4, v5, v6, v7, v8, v9, v10, v11, v12, v13, v14, v15, v16, v17, v18, v19, v20] t) (m : Box w b [x, y, z] u) (n : Box w c [x', y', z'] s) : w.cell? ⟨sb, 7, none⟩ = some v7 ∧ w.cell? ⟨sb, 8, none⟩ = some v8 ∧ w.cell? ⟨sb, 9, none⟩ = some v9 ∧ w.cell? ⟨sb, 10, none⟩ = some v10 ∧ w.cell? ⟨sb, 11, none⟩ = some v11 ∧ w.cell? ⟨sb, 12, none⟩ = some v12 ∧ w.cell? ⟨sb, 13, none⟩ = some v13 ∧ w.cell? ⟨b, 0, none⟩ = some x ∧ w.cell? ⟨b, 1, none⟩ = some y ∧ w.cell? ⟨b, 2, none⟩ = some z ∧ w.cell? ⟨c, 0, none⟩ = some x' ∧ w.cell? ⟨c, 1, none⟩ = some y' ∧ w.cell? ⟨c, 2, none⟩ = some z' := ⟨h.cell 7, h.cell 8, h.cell 9, h.cell 10, h.cell 11, h.cell 12, h.cell 13, m.cell 0, m.cell 1, m.cell 2, n.cell 0, n.cell 1, n.cell 2⟩
theorem unit10_2 (h : Box w sb [v0, v1, v2, v3, v4, v5, v6, v7, v8, v9, v10, v11, v12, v13, v14, v15, v16, v17, v18, v19, v20] t) (m : Box w b [x, y, z] u) : w.cell? ⟨sb, 14, none⟩ = some v14 ∧ w.cell? ⟨sb, 15, none⟩ = some v15 ∧ w.cell? ⟨sb, 16, none⟩ = some v16 ∧ w.cell? ⟨sb, 17, none⟩ = some v17 ∧ w.cell? ⟨sb, 18, none⟩ = some v18 ∧ w.cell? ⟨sb, 19, none⟩ = some v19 ∧ w.cell? ⟨sb, 20, none⟩ = some v20 ∧ w.cell? ⟨b, 0, none⟩ = some x ∧ w.cell? ⟨b, 1, none⟩ = some y ∧ w.cell? ⟨b, 2, none⟩ = some z := ⟨h.cell 14, h.cell 15, h.cell 16, h.cell 17, h.cell 18, h.cell 19, h.cell 20, m.cell 0, m.cell 1, m.cell 2⟩
theorem unit13_2 (h : Box w sb [v0, v1, v2, v3, v4, v5, v6, v7, v8, v9, v10, v11, v12, v13, v14, v15, v16, v17, v18, v19, v20] t) (m : Box w b [x, y, z] u) (n : Box w c [x', y', z'] s) : w.cell? ⟨sb, 14, none⟩ = some v14 ∧ w.cell? ⟨sb, 15, none⟩ = some v15 ∧ w.cell? ⟨sb, 16, none⟩ = some v16 ∧ w.cell? ⟨sb, 17, none⟩ = some v17 ∧ w.cell? ⟨sb, 18, none⟩ = some v18 ∧ w.cell? ⟨sb, 19, none⟩ = some v19 ∧ w.cell? ⟨sb, 20, none⟩ = some v20 ∧ w.cell? ⟨b, 0, none⟩ = some x ∧ w.cell? ⟨b, 1, none⟩ = some y ∧ w.cell? ⟨b, 2, none⟩ = some z ∧ w.cell? ⟨c, 0, none⟩ = some x' ∧ w.cell? ⟨c, 1, none⟩ = some y' ∧ w.cell? ⟨c, 2, none⟩ = some z' := ⟨h.cell 14, h.cell 15, h.cell 16, h.cell 17, h.cell 18, h.cell 19, h.cell 20, m.cell 0, m.cell 1, m.cell 2, n.cell 0, n.cell 1, n.cell 2⟩
end
end Gal
namespace Go.Proofs.Ytlfeijffjpjnnaa.lawLayerUnit
open Go.ChangeShapes Go.WideShapes Go.ChangeAt Go.RowKit Gal
set_option maxRecDepth 100000
set_option maxHeartbeats 8000000
section
variable (x g : Mat) (a0 a1 : Option Addr) (n0 n1 k0 k1 b0 b1 o0 o1 : Nat) (w : World) (x0 : IntsAt w a0 n0 k0 b0 o0 x.cells) (x1 : IntsAt w a1 n1 k1 b1 o1 g.cells)
include x0 x1
theorem walk0 (hc : x.cols < 1 ∨ 12 < x.cols) :
    Calls Try.prog 10 #[.agg #[.int .i64 x.rows, .int .i64 x.cols, .slice a0 n0 k0], .agg #[.int .i64 g.rows, .int .i64 g.cols, .slice a1 n1 k1]] w fun e w' => e = .returned (.bool true) ∧ Below w.heap.size w w'
  := by
  rcases hc with hc | hc
  · skip
    go_enter Try.func10, Try.ntmps10
    go_wp2_with fail
    refine (layFact_any _).mono ?_
    rintro e w1 ⟨rfl, hb1⟩
    have B0 := ((show Box _ w.heap.size [.int .i64 x.rows, .int .i64 x.cols, .slice a0 n0 k0] 31 from (by repeat (first | fail | (with_reducible refine (Box.new' _ (w.heap.size) _ _ ?_); (simp; done)) | (with_reducible refine Box.alloc ?_ _) | (with_reducible refine Box.drewN ?_ _) | (with_reducible refine Box.drew ?_) | (with_reducible refine Box.far ?_ ?_ _; rotate_left 1; (first | (dsimp only; omega) | omega | (simp; omega) | simp)))))).keep hb1
    have B0c := B0.cell
    have B0f := B0.thawed
    have B0z := B0.lt
    have B0k := lt_add B0z
    replace x0 := (x0.alloc _ |>.alloc _).keep hb1
    replace x1 := (x1.alloc _ |>.alloc _).keep hb1
    go_wp2
    go_ret
    exact ⟨rfl, (by repeat (first | fail | (with_reducible exact Below.refl _ _) | (with_reducible refine Below.al ?_ _) | (with_reducible refine Below.drN ?_ _) | (with_reducible refine Below.drew ?_) | (with_reducible refine Below.st ?_ ?_ _; rotate_left 1; (first | (dsimp only; omega) | omega | (simp; omega) | simp)) | (with_reducible refine Below.go ?_ hb1) | exact Below.refl _ _))⟩
  · skip
    go_enter Try.func10, Try.ntmps10
    go_wp2_with fail
    refine (layFact_any _).mono ?_
    rintro e w1 ⟨rfl, hb1⟩
    have B0 := ((show Box _ w.heap.size [.int .i64 x.rows, .int .i64 x.cols, .slice a0 n0 k0] 31 from (by repeat (first | fail | (with_reducible refine (Box.new' _ (w.heap.size) _ _ ?_); (simp; done)) | (with_reducible refine Box.alloc ?_ _) | (with_reducible refine Box.drewN ?_ _) | (with_reducible refine Box.drew ?_) | (with_reducible refine Box.far ?_ ?_ _; rotate_left 1; (first | (dsimp only; omega) | omega | (simp; omega) | simp)))))).keep hb1
    have B0c := B0.cell
    have B0f := B0.thawed
    have B0z := B0.lt
    have B0k := lt_add B0z
    replace x0 := (x0.alloc _ |>.alloc _).keep hb1
    replace x1 := (x1.alloc _ |>.alloc _).keep hb1
    go_wp2
    go_ret
    exact ⟨rfl, (by repeat (first | fail | (with_reducible exact Below.refl _ _) | (with_reducible refine Below.al ?_ _) | (with_reducible refine Below.drN ?_ _) | (with_reducible refine Below.drew ?_) | (with_reducible refine Below.st ?_ ?_ _; rotate_left 1; (first | (dsimp only; omega) | omega | (simp; omega) | simp)) | (with_reducible refine Below.go ?_ hb1) | exact Below.refl _ _))⟩
theorem walk1 (h1 : 1 ≤ x.cols) (h2 : x.cols ≤ 12) (hf : x.fault ≠ 0) :
    Calls Try.prog 10 #[.agg #[.int .i64 x.rows, .int .i64 x.cols, .slice a0 n0 k0], .agg #[.int .i64 g.rows, .int .i64 g.cols, .slice a1 n1 k1]] w fun e w' => e = .returned (.bool true) ∧ Below w.heap.size w w'
  := by
  have HE : Hid (errV (matFault x.rows x.cols x.cells) = .iface 26 (.int .i64 x.fault)) := Lib.hid (errV_err hf)
  clear hf
  go_enter Try.func10, Try.ntmps10
  go_wp2_with fail
  refine (layFact_any _).mono ?_
  rintro e w1 ⟨rfl, hb1⟩
  have B0 := ((show Box _ w.heap.size [.int .i64 x.rows, .int .i64 x.cols, .slice a0 n0 k0] 31 from (by repeat (first | fail | (with_reducible refine (Box.new' _ (w.heap.size) _ _ ?_); (simp; done)) | (with_reducible refine Box.alloc ?_ _) | (with_reducible refine Box.drewN ?_ _) | (with_reducible refine Box.drew ?_) | (with_reducible refine Box.far ?_ ?_ _; rotate_left 1; (first | (dsimp only; omega) | omega | (simp; omega) | simp)))))).keep hb1
  have B0c := B0.cell
  have B0f := B0.thawed
  have B0z := B0.lt
  have B0k := lt_add B0z
  replace x0 := (x0.alloc _ |>.alloc _).keep hb1
  replace x1 := (x1.alloc _ |>.alloc _).keep hb1
  go_wp2_with fail
  refine (matCheck_any _ _ _ _ _ _ _ x.cells _ x0).mono ?_
  rw [HE.out]
  rintro e w2 ⟨rfl, hb2⟩
  go_wp2
  go_ret
  exact ⟨rfl, (by repeat (first | fail | (with_reducible exact Below.refl _ _) | (with_reducible refine Below.al ?_ _) | (with_reducible refine Below.drN ?_ _) | (with_reducible refine Below.drew ?_) | (with_reducible refine Below.st ?_ ?_ _; rotate_left 1; (first | (dsimp only; omega) | omega | (simp; omega) | simp)) | (with_reducible refine Below.go ?_ hb2) | (with_reducible refine Below.go ?_ hb1) | exact Below.refl _ _))⟩
end
theorem blank_row (K : Nat) (hK : K ≤ 24) (w : World) : Calls Try.prog 26 #[.int .i64 1, .int .i64 K] w fun e w' =>
    ∃ b, e = .returned (.agg #[.int .i64 1, .int .i64 K, .slice (some ⟨b, 0, none⟩) K K]) ∧ w.heap.size ≤ b ∧ Box w' b ((zeros K).map (Value.int .i64)) 3 ∧ Below w.heap.size w w' := by
  have h := blank_any 1 K (by omega) hK w
  rw [Nat.one_mul] at h
  exact h
/-- what is so of a layer that does nothing to X -/
structure Idle (l : Lay) (X g : Mat) : Prop where
  go : l.goFault X = 0
  is : l.go X = X
  back : l.backFault X g = 0 → l.back X g = g
section
variable (R K : Nat) (xs : List Int) (g : Mat) (a0 a1 : Option Addr) (n0 n1 k0 k1 b0 b1 o0 o1 : Nat) (w : World) (x0 : IntsAt w a0 n0 k0 b0 o0 xs) (x1 : IntsAt w a1 n1 k1 b1 o1 g.cells)
include x0 x1
theorem walk2 (hf : (⟨R, K, xs⟩ : Mat).fault = 0) (hK1 : 1 ≤ K) (hK : K ≤ 12) :
    Calls Try.prog 10 #[.agg #[.int .i64 R, .int .i64 K, .slice a0 n0 k0], .agg #[.int .i64 g.rows, .int .i64 g.cols, .slice a1 n1 k1]] w fun e w' => e = .returned (.bool true) ∧ Below w.heap.size w w'
  := by
  have HE : Hid (errV (matFault R K xs) = .nilIface) := Lib.hid (errV_nil hf)
  have I0 : Hid (Idle (unitL K) ⟨R, K, xs⟩ g) := Lib.hid ⟨(unitL_ok hK1 hf).1, (unitL_ok hK1 hf).2, unitL_back⟩
  have I1 : Hid (Idle oneL ⟨R, K, xs⟩ g) := Lib.hid ⟨(oneL_ok hK1 hf).1, (oneL_ok hK1 hf).2, oneL_back⟩
  have I2 : Hid (Idle (noughtL K) ⟨R, K, xs⟩ g) := Lib.hid ⟨(noughtL_ok hK1 hf).1, (noughtL_ok hK1 hf).2, fun _ => noughtL_back⟩
  have hkk : K * K ≤ 144 := Nat.mul_le_mul hK hK
  clear hf
  go_enter Try.func10, Try.ntmps10
  go_wp2_with fail
  refine (layFact_any _).mono ?_
  rintro e w1 ⟨rfl, hb1⟩
  have B0 := ((show Box _ w.heap.size [.int .i64 R, .int .i64 K, .slice a0 n0 k0] 31 from (by repeat (first | fail | (with_reducible refine (Box.new' _ (w.heap.size) _ _ ?_); (simp; done)) | (with_reducible refine Box.alloc ?_ _) | (with_reducible refine Box.drewN ?_ _) | (with_reducible refine Box.drew ?_) | (with_reducible refine Box.far ?_ ?_ _; rotate_left 1; (first | (dsimp only; omega) | omega | (simp; omega) | simp)))))).keep hb1
  have B0c := B0.cell
  have B0f := B0.thawed
  have B0z := B0.lt
  have B0k := lt_add B0z
  have B1 := ((show Box _ (w.heap.size + 1) [.int .i64 g.rows, .int .i64 g.cols, .slice a1 n1 k1] 31 from (by repeat (first | fail | (with_reducible refine (Box.new' _ (w.heap.size + 1) _ _ ?_); (simp; done)) | (with_reducible refine Box.alloc ?_ _) | (with_reducible refine Box.drewN ?_ _) | (with_reducible refine Box.drew ?_) | (with_reducible refine Box.far ?_ ?_ _; rotate_left 1; (first | (dsimp only; omega) | omega | (simp; omega) | simp)))))).keep hb1
  have B1c := B1.cell
  have B1f := B1.thawed
  have B1z := B1.lt
  have B1k := lt_add B1z
  replace x0 := (x0.alloc _ |>.alloc _).keep hb1
  replace x1 := (x1.alloc _ |>.alloc _).keep hb1
  go_wp2_with fail
  refine (matCheck_any _ _ _ _ _ _ _ xs _ x0).mono ?_
  rw [HE.out]
  rintro e w2 ⟨rfl, hb2⟩
  have hkw2 : Below w1.heap.size w1 w2 := (by repeat (first | fail | (with_reducible exact Below.refl _ _) | (with_reducible refine Below.al ?_ _) | (with_reducible refine Below.drN ?_ _) | (with_reducible refine Below.drew ?_) | (with_reducible refine Below.st ?_ ?_ _; rotate_left 1; (first | (dsimp only; omega) | omega | (simp; omega) | simp)) | (with_reducible refine Below.go ?_ hb2) | exact Below.refl _ _))
  replace B0 := B0.keep hkw2
  replace B0c := B0.cell
  replace B0f := B0.thawed
  replace B0z := B0.lt
  replace B0k := lt_add B0z
  replace B1 := B1.keep hkw2
  replace B1c := B1.cell
  replace B1f := B1.thawed
  replace B1z := B1.lt
  replace B1k := lt_add B1z
  replace x0 := x0.keep hkw2
  replace x1 := x1.keep hkw2
  have hsw2 := hkw2.size
  have l0w : 0 < n0 → b0 < w2.heap.size := x0.lt
  have l1w : 0 < n1 → b1 < w2.heap.size := x1.lt
  go_wp2_with fail
  refine (blank_any K K (by omega) (by omega) _).mono ?_
  rintro e w3 ⟨bu, rfl, hbb, hB, hb3⟩
  have hkw3 : Below w2.heap.size w2 w3 := (by repeat (first | fail | (with_reducible exact Below.refl _ _) | (with_reducible refine Below.al ?_ _) | (with_reducible refine Below.drN ?_ _) | (with_reducible refine Below.drew ?_) | (with_reducible refine Below.st ?_ ?_ _; rotate_left 1; (first | (dsimp only; omega) | omega | (simp; omega) | simp)) | (with_reducible refine Below.go ?_ hb3) | exact Below.refl _ _))
  replace B0 := B0.keep hkw3
  replace B0c := B0.cell
  replace B0f := B0.thawed
  replace B0z := B0.lt
  replace B0k := lt_add B0z
  replace B1 := B1.keep hkw3
  replace B1c := B1.cell
  replace B1f := B1.thawed
  replace B1z := B1.lt
  replace B1k := lt_add B1z
  replace x0 := x0.keep hkw3
  replace x1 := x1.keep hkw3
  have hsw3 := hkw3.size
  have zb := hB.lt
  have hz1 : w.heap.size + 1 < bu := by have := hb2.size; have := hb1.size; simp at *; omega
  have hbw3 : Below w.heap.size w w3 := (by repeat (first | fail | (with_reducible exact Below.refl _ _) | (with_reducible refine Below.al ?_ _) | (with_reducible refine Below.drN ?_ _) | (with_reducible refine Below.drew ?_) | (with_reducible refine Below.st ?_ ?_ _; rotate_left 1; (first | (dsimp only; omega) | omega | (simp; omega) | simp)) | (with_reducible refine Below.go ?_ hb3) | (with_reducible refine Below.go ?_ hb2) | (with_reducible refine Below.go ?_ hb1) | exact Below.refl _ _))
  have l0 : 0 < n0 → b0 < bu := fun h => by have := l0w h; omega
  have l1 : 0 < n1 → b1 < bu := fun h => by have := l1w h; omega
  go_wp2
  go_loopw [8] (fun i wr => ∃ k : Nat, k ≤ K ∧ i = .int .i64 k ∧ Far (· = bu) (w3.alloc (.cells #[.int .i64 K, .int .i64 K, .slice (some ⟨bu, 0, none⟩) (K * K) (K * K)] 31)) wr ∧ Box wr bu ((unitTo K k).map (Value.int .i64)) 3) (fun i _ => K - (intOf i).toNat)
  case atStart => exact ⟨0, Nat.zero_le _, rfl, Far.refl _ _, by rw [unitTo_zero]; exact hB.alloc _⟩
  case round =>
    obtain ⟨k, hk, rfl, hfr, Bc⟩ := hrel
    have Bu := (Box.new w3 [.int .i64 K, .int .i64 K, .slice (some ⟨bu, 0, none⟩) (K * K) (K * K)] 31).farS hfr (by omega)
    have Buc := Bu.cell
    have Buf := Bu.thawed
    have Buz := Bu.lt
    have Buk := lt_add Buz
    have B0 := (B0.alloc _).farS hfr (by omega)
    have B0c := B0.cell
    have B0f := B0.thawed
    have B0z := B0.lt
    have B0k := lt_add B0z
    have B1 := (B1.alloc _).farS hfr (by omega)
    have B1c := B1.cell
    have B1f := B1.thawed
    have B1z := B1.lt
    have B1k := lt_add B1z
    replace x0 := (x0.alloc _).farS hfr (by intro h e; have := l0 h; omega)
    replace x1 := (x1.alloc _).farS hfr (by intro h e; have := l1 h; omega)
    have hbr : Below w.heap.size w wr := Far.toBelow (hbw3.al _) hfr (by have := hbw3.size; simp; omega) (by rintro k rfl; omega)
    by_cases hlt : k < K
    · have hkk2 := cell_lt hlt hlt
      have e1 : (k : Int) * K ≤ 144 := by have := Nat.mul_le_mul (show k ≤ 12 by omega) hK; rw [← Int.natCast_mul]; omega
      have e2 : (0 : Int) ≤ (k : Int) * K := by rw [← Int.natCast_mul]; omega
      have y1 : (k : Int) * K + k < (K : Int) * K := by rw [← Int.natCast_mul, ← Int.natCast_mul]; omega
      have y2 : 0 ≤ (k : Int) * K + k := by omega
      have y3 : ((k : Int) * K + k).toNat = k * K + k := by rw [← Int.natCast_mul]; omega
      have cc := Bc.icell (k := k * K + k) (by unfold unitTo; rw [grid_length]; exact hkk2)
      have cf := Bc.thawed (k * K + k)
      go_wp2
      go_roundw
      case rel => exact ⟨k + 1, by omega, by go_num, hfr.st (fun _ => rfl) _, by
        have hs := Bc.iset (k * K + k) 256
        rw [unitTo_succ hlt] at hs
        exact hs⟩
      case measure => simp [intOf]; omega
    · obtain rfl : k = K := by omega
      have xu := ints_box Bc (by unfold unitTo maxLen; rw [grid_length]; omega)
      rw [show (unitTo k k).length = k * k from grid_length _ _ _] at xu
      have zbr : bu < wr.heap.size := Bc.lt
      go_wp2_with fail
      refine (blank_row k (by omega) _).mono ?_
      rintro e w21 ⟨bz, rfl, hbz, hZ, hb21⟩
      have hkw21 : Below wr.heap.size wr w21 := (by repeat (first | fail | (with_reducible exact Below.refl _ _) | (with_reducible refine Below.al ?_ _) | (with_reducible refine Below.drN ?_ _) | (with_reducible refine Below.drew ?_) | (with_reducible refine Below.st ?_ ?_ _; rotate_left 1; (first | (dsimp only; omega) | omega | (simp; omega) | simp)) | (with_reducible refine Below.go ?_ hb21) | exact Below.refl _ _))
      replace B0 := B0.keep hkw21
      replace B0c := B0.cell
      replace B0f := B0.thawed
      replace B0z := B0.lt
      replace B0k := lt_add B0z
      replace B1 := B1.keep hkw21
      replace B1c := B1.cell
      replace B1f := B1.thawed
      replace B1z := B1.lt
      replace B1k := lt_add B1z
      replace Bu := Bu.keep hkw21
      replace Buc := Bu.cell
      replace Buf := Bu.thawed
      replace Buz := Bu.lt
      replace Buk := lt_add Buz
      replace x0 := x0.keep hkw21
      replace x1 := x1.keep hkw21
      replace xu := xu.keep hkw21
      have hsw21 := hkw21.size
      have xz := ints_box hZ (by unfold maxLen; rw [zeros_length]; omega)
      rw [zeros_length] at xz
      have hb21' : Below w.heap.size w w21 := (by repeat (first | fail | (with_reducible exact Below.refl _ _) | (with_reducible exact hbr) | (with_reducible refine Below.al ?_ _) | (with_reducible refine Below.drN ?_ _) | (with_reducible refine Below.drew ?_) | (with_reducible refine Below.st ?_ ?_ _; rotate_left 1; (first | (dsimp only; omega) | omega | (simp; omega) | simp)) | (with_reducible refine Below.go ?_ hb21) | exact Below.refl _ _ | exact hbr))
      obtain ⟨wq, hq, X0, G0, S3, y0, y1, yu, yz, yq, hbq⟩ : ∃ wq, ((w21.alloc (.cells #[.int .i64 1, .int .i64 k, .slice (some ⟨bz, 0, none⟩) k k] 31)).alloc (.cells #[.int .i64 256] 3)).alloc (.cells #[.int .i64 1, .int .i64 k, .int .i64 k, .slice (some ⟨bu, 0, none⟩) (k * k) (k * k), .int .i64 1, .int .i64 k, .slice (some ⟨bz, 0, none⟩) k k, .int .i64 3, .int .i64 1, .int .i64 1, .slice (some ⟨w21.heap.size + 1, 0, none⟩) 1 1, .int .i64 0, .int .i64 0, .slice none 0 0, .int .i64 4, .int .i64 0, .int .i64 0, .slice none 0 0, .int .i64 1, .int .i64 k, .slice (some ⟨bz, 0, none⟩) k k] 48) = wq ∧
          Box wq w.heap.size [.int .i64 R, .int .i64 k, .slice a0 n0 k0] 31 ∧ Box wq (w.heap.size + 1) [.int .i64 g.rows, .int .i64 g.cols, .slice a1 n1 k1] 31 ∧ Box wq (w21.heap.size + 1 + 1) [.int .i64 1, .int .i64 k, .int .i64 k, .slice (some ⟨bu, 0, none⟩) (k * k) (k * k), .int .i64 1, .int .i64 k, .slice (some ⟨bz, 0, none⟩) k k, .int .i64 3, .int .i64 1, .int .i64 1, .slice (some ⟨w21.heap.size + 1, 0, none⟩) 1 1, .int .i64 0, .int .i64 0, .slice none 0 0, .int .i64 4, .int .i64 0, .int .i64 0, .slice none 0 0, .int .i64 1, .int .i64 k, .slice (some ⟨bz, 0, none⟩) k k] 48 ∧
          IntsAt wq a0 n0 k0 b0 o0 xs ∧ IntsAt wq a1 n1 k1 b1 o1 g.cells ∧ IntsAt wq (some ⟨bu, 0, none⟩) (k * k) (k * k) bu 0 (unitTo k k) ∧ IntsAt wq (some ⟨bz, 0, none⟩) k k bz 0 (zeros k) ∧ IntsAt wq (some ⟨w21.heap.size + 1, 0, none⟩) 1 1 (w21.heap.size + 1) 0 [256] ∧ Below w.heap.size w wq :=
        ⟨_, rfl, (by repeat (first | fail | (with_reducible exact B0) | (with_reducible refine Box.alloc ?_ _) | (with_reducible refine Box.drewN ?_ _) | (with_reducible refine Box.drew ?_) | (with_reducible refine Box.far ?_ ?_ _; rotate_left 1; (first | (dsimp only; omega) | omega | (simp; omega) | simp)) | exact B0)), (by repeat (first | fail | (with_reducible exact B1) | (with_reducible refine Box.alloc ?_ _) | (with_reducible refine Box.drewN ?_ _) | (with_reducible refine Box.drew ?_) | (with_reducible refine Box.far ?_ ?_ _; rotate_left 1; (first | (dsimp only; omega) | omega | (simp; omega) | simp)) | exact B1)), (by repeat (first | fail | (with_reducible refine (Box.new' _ (w21.heap.size + 1 + 1) _ _ ?_); (simp; done)) | (with_reducible refine Box.alloc ?_ _) | (with_reducible refine Box.drewN ?_ _) | (with_reducible refine Box.drew ?_) | (with_reducible refine Box.far ?_ ?_ _; rotate_left 1; (first | (dsimp only; omega) | omega | (simp; omega) | simp)))), (by repeat (first | fail | (with_reducible exact x0) | (with_reducible refine IntsAt.alloc ?_ _) | (with_reducible refine IntsAt.drewN ?_ _) | (with_reducible refine IntsAt.drew ?_) | (with_reducible refine IntsAt.set ?_ ?_ _; rotate_left 1; (intro h0; first | (dsimp only; omega) | omega | (simp; omega) | simp)) | exact x0)), (by repeat (first | fail | (with_reducible exact x1) | (with_reducible refine IntsAt.alloc ?_ _) | (with_reducible refine IntsAt.drewN ?_ _) | (with_reducible refine IntsAt.drew ?_) | (with_reducible refine IntsAt.set ?_ ?_ _; rotate_left 1; (intro h0; first | (dsimp only; omega) | omega | (simp; omega) | simp)) | exact x1)), (by repeat (first | fail | (with_reducible exact xu) | (with_reducible refine IntsAt.alloc ?_ _) | (with_reducible refine IntsAt.drewN ?_ _) | (with_reducible refine IntsAt.drew ?_) | (with_reducible refine IntsAt.set ?_ ?_ _; rotate_left 1; (intro h0; first | (dsimp only; omega) | omega | (simp; omega) | simp)) | exact xu)), (by repeat (first | fail | (with_reducible exact xz) | (with_reducible refine IntsAt.alloc ?_ _) | (with_reducible refine IntsAt.drewN ?_ _) | (with_reducible refine IntsAt.drew ?_) | (with_reducible refine IntsAt.set ?_ ?_ _; rotate_left 1; (intro h0; first | (dsimp only; omega) | omega | (simp; omega) | simp)) | exact xz)), ints_box (xs := [256]) (show Box _ (w21.heap.size + 1) [.int .i64 256] 3 from (by repeat (first | fail | (with_reducible refine (Box.new' _ (w21.heap.size + 1) _ _ ?_); (simp; done)) | (with_reducible refine Box.alloc ?_ _) | (with_reducible refine Box.drewN ?_ _) | (with_reducible refine Box.drew ?_) | (with_reducible refine Box.far ?_ ?_ _; rotate_left 1; (first | (dsimp only; omega) | omega | (simp; omega) | simp))))) (by unfold maxLen; simp), (by repeat (first | fail | (with_reducible exact Below.refl _ _) | (with_reducible exact hb21') | (with_reducible refine Below.al ?_ _) | (with_reducible refine Below.drN ?_ _) | (with_reducible refine Below.drew ?_) | (with_reducible refine Below.st ?_ ?_ _; rotate_left 1; (first | (dsimp only; omega) | omega | (simp; omega) | simp)) | exact Below.refl _ _ | exact hb21'))⟩
      go_wp2_with fail
      clear hq B0 B0c B0f B0z B0k B1 B1c B1f B1z B1k Bu Buc Buf Buz Buk x0 x1 xu xz hZ Bc hfr
      try clear hbr
      try clear hbw3
      try clear hb1
      try clear hb2
      try clear hb3
      try clear hb21
      try clear hb21'
      try clear hkw2
      try clear hkw3
      try clear hkw21
      try clear hsw2
      try clear hsw3
      try clear hsw21
      try clear HE
      try clear l0
      try clear l1
      try clear l0w
      try clear l1w
      try clear hbb
      try clear hbz
      try clear zb
      try clear zbr
      try clear hz1
      try clear hB
      try clear hkk
      have X0 := X0
      have X0c := X0.cell
      have X0f := X0.thawed
      have X0z := X0.lt
      have X0k := lt_add X0z
      have G0 := G0
      have G0c := G0.cell
      have G0f := G0.thawed
      have G0z := G0.lt
      have G0k := lt_add G0z
      have S3 := S3
      have S3c := S3.cell
      have S3f := S3.thawed
      have S3z := S3.lt
      have S3k := lt_add S3z
      go_loopw [11] (fun i wr => ∃ j : Nat, j ≤ 3 ∧ i = .int .i64 j ∧ Below wq.heap.size wq wr) (fun i _ => 3 - (intOf i).toNat)
      case atStart => exact ⟨0, by omega, rfl, Below.refl _ _⟩
      case round =>
        obtain ⟨j, hj, rfl, hbr2⟩ := hrel
        have hkwr : Below wq.heap.size wq wr := (by repeat (first | fail | (with_reducible exact Below.refl _ _) | (with_reducible refine Below.al ?_ _) | (with_reducible refine Below.drN ?_ _) | (with_reducible refine Below.drew ?_) | (with_reducible refine Below.st ?_ ?_ _; rotate_left 1; (first | (dsimp only; omega) | omega | (simp; omega) | simp)) | (with_reducible refine Below.go ?_ hbr2) | exact Below.refl _ _))
        replace X0 := X0.keep hkwr
        replace X0c := X0.cell
        replace X0f := X0.thawed
        replace X0z := X0.lt
        replace X0k := lt_add X0z
        replace G0 := G0.keep hkwr
        replace G0c := G0.cell
        replace G0f := G0.thawed
        replace G0z := G0.lt
        replace G0k := lt_add G0z
        replace S3 := S3.keep hkwr
        replace S3c := S3.cell
        replace S3f := S3.thawed
        replace S3z := S3.lt
        replace S3k := lt_add S3z
        replace y0 := y0.keep hkwr
        replace y1 := y1.keep hkwr
        replace yu := yu.keep hkwr
        replace yz := yz.keep hkwr
        replace yq := yq.keep hkwr
        by_cases hlt : j < 3
        · skip
          rcases (by omega : j = 0 ∨ j = 1 ∨ j = 2) with rfl | rfl | rfl
          · skip
            go_wp2_with fail
            go_cut [12, 13] (fun s12 s13 wx => ∃ p a5 n5 k5 b5 o5, s12 = .pointer (some ⟨p, 0, none⟩) ∧ s13 = .nilIface ∧ Box wx p [.int .i64 R, .int .i64 k, .slice a5 n5 k5] 31 ∧ IntsAt wx a5 n5 k5 b5 o5 xs ∧ Below wr.heap.size wr wx)
            case first =>
              go_region_held3 (fun w' => w'.cell? ⟨w21.heap.size + 1 + 1, 0, none⟩ = some (.int .i64 1) ∧ w'.cell? ⟨w21.heap.size + 1 + 1, 1, none⟩ = some (.int .i64 k) ∧ w'.cell? ⟨w21.heap.size + 1 + 1, 2, none⟩ = some (.int .i64 k) ∧ w'.cell? ⟨w21.heap.size + 1 + 1, 3, none⟩ = some (.slice (some ⟨bu, 0, none⟩) (k * k) (k * k)) ∧ w'.cell? ⟨w21.heap.size + 1 + 1, 4, none⟩ = some (.int .i64 1) ∧ w'.cell? ⟨w21.heap.size + 1 + 1, 5, none⟩ = some (.int .i64 k) ∧ w'.cell? ⟨w21.heap.size + 1 + 1, 6, none⟩ = some (.slice (some ⟨bz, 0, none⟩) k k) ∧ w'.cell? ⟨w.heap.size, 0, none⟩ = some (.int .i64 R) ∧ w'.cell? ⟨w.heap.size, 1, none⟩ = some (.int .i64 k) ∧ w'.cell? ⟨w.heap.size, 2, none⟩ = some (.slice a0 n0 k0)) (exact unit10_0 (t := 48) (u := 31) (by repeat (first | fail | (with_reducible exact S3) | (with_reducible refine Box.alloc ?_ _) | (with_reducible refine Box.drewN ?_ _) | (with_reducible refine Box.drew ?_) | (with_reducible refine Box.far ?_ ?_ _; rotate_left 1; (first | (dsimp only; omega) | omega | (simp; omega) | simp)) | (with_reducible refine Box.keep ?_ hb5) | exact S3)) (by repeat (first | fail | (with_reducible exact X0) | (with_reducible refine Box.alloc ?_ _) | (with_reducible refine Box.drewN ?_ _) | (with_reducible refine Box.drew ?_) | (with_reducible refine Box.far ?_ ?_ _; rotate_left 1; (first | (dsimp only; omega) | omega | (simp; omega) | simp)) | (with_reducible refine Box.keep ?_ hb5) | exact X0))) ((go_at_call 36; go_must (refine (layGo_is (l := (unitL k)) ⟨_, _, _, _, _, _, _, _, _, _, rfl, (show IntsAt _ (some ⟨bu, 0, none⟩) (k * k) (k * k) bu 0 (unitTo k k) from (by repeat (first | fail | (with_reducible exact yu) | (with_reducible refine IntsAt.alloc ?_ _) | (with_reducible refine IntsAt.drewN ?_ _) | (with_reducible refine IntsAt.drew ?_) | (with_reducible refine IntsAt.set ?_ ?_ _; rotate_left 1; (intro h0; first | (dsimp only; omega) | omega | (simp; omega) | simp)) | exact yu))), (show IntsAt _ (some ⟨bz, 0, none⟩) k k bz 0 (zeros k) from (by repeat (first | fail | (with_reducible exact yz) | (with_reducible refine IntsAt.alloc ?_ _) | (with_reducible refine IntsAt.drewN ?_ _) | (with_reducible refine IntsAt.drew ?_) | (with_reducible refine IntsAt.set ?_ ?_ _; rotate_left 1; (intro h0; first | (dsimp only; omega) | omega | (simp; omega) | simp)) | exact yz)))⟩ (MatAt.mk (show IntsAt _ a0 n0 k0 b0 o0 xs from (by repeat (first | fail | (with_reducible exact y0) | (with_reducible refine IntsAt.alloc ?_ _) | (with_reducible refine IntsAt.drewN ?_ _) | (with_reducible refine IntsAt.drew ?_) | (with_reducible refine IntsAt.set ?_ ?_ _; rotate_left 1; (intro h0; first | (dsimp only; omega) | omega | (simp; omega) | simp)) | exact y0)))) I0.out.go I0.out.is).mono ?_); go_must (rintro e w5 ⟨v5, rfl, ⟨a5, n5, k5, b5, o5, rfl, hn5, x5⟩, hb5⟩); (try (refine (fun (P1 : Box w5 (wr.heap.size) [.int .i64 0, .int .i64 0, .slice none 0 0] 31) => ?_) ?_; rotate_left 1; (with_reducible refine Box.keep ?_ hb5); (focus ((repeat (first | (with_reducible refine (Box.new' _ (wr.heap.size) _ _ ?_); (simp; done)) | (with_reducible refine Box.alloc ?_ _) | (with_reducible refine Box.drew ?_) | (with_reducible refine Box.drewN ?_ _))); done)); have P1c := P1.cell; have P1f := P1.thawed; have P1z := P1.lt))))
              all_goals (
                go_wp2_with fail
                go_meet
                simp at hn5
                exact ⟨_, a5, n5, k5, b5, o5, rfl, rfl, (by repeat (first | fail | (with_reducible refine (Box.new' _ _ _ _ ?_); (simp; done)) | (with_reducible refine Box.alloc ?_ _) | (with_reducible refine Box.drewN ?_ _) | (with_reducible refine Box.drew ?_) | (with_reducible refine Box.set6z ?_ _ _ _ _ _ _) | (with_reducible refine Box.set3z ?_ _ _ _) | (with_reducible refine Box.far ?_ ?_ _; rotate_left 1; (first | (dsimp only; omega) | omega | (simp; omega) | simp)) | (with_reducible refine Box.keep ?_ hb5))), (by repeat (first | fail | (with_reducible exact x5) | (with_reducible refine IntsAt.alloc ?_ _) | (with_reducible refine IntsAt.drewN ?_ _) | (with_reducible refine IntsAt.drew ?_) | (with_reducible refine IntsAt.set ?_ ?_ _; rotate_left 1; (intro h0; have hq0 := hn5 h0; first | (dsimp only; omega) | omega | (simp; omega) | simp)) | exact x5)), (by repeat (first | fail | (with_reducible exact Below.refl _ _) | (with_reducible refine Below.al ?_ _) | (with_reducible refine Below.drN ?_ _) | (with_reducible refine Below.drew ?_) | (with_reducible refine Below.st ?_ ?_ _; rotate_left 1; (first | (dsimp only; omega) | omega | (simp; omega) | simp)) | (with_reducible refine Below.go ?_ hb5) | exact Below.refl _ _))⟩)
            case rest =>
              obtain ⟨p, a5, n5, k5, b5, o5, rfl, rfl, P12, x5, hbx⟩ := hcut
              have hkwc : Below wr.heap.size wr wc := (by repeat (first | fail | (with_reducible exact Below.refl _ _) | (with_reducible refine Below.al ?_ _) | (with_reducible refine Below.drN ?_ _) | (with_reducible refine Below.drew ?_) | (with_reducible refine Below.st ?_ ?_ _; rotate_left 1; (first | (dsimp only; omega) | omega | (simp; omega) | simp)) | (with_reducible refine Below.go ?_ hbx) | exact Below.refl _ _))
              replace X0 := X0.keep hkwc
              replace X0c := X0.cell
              replace X0f := X0.thawed
              replace X0z := X0.lt
              replace X0k := lt_add X0z
              replace G0 := G0.keep hkwc
              replace G0c := G0.cell
              replace G0f := G0.thawed
              replace G0z := G0.lt
              replace G0k := lt_add G0z
              replace S3 := S3.keep hkwc
              replace S3c := S3.cell
              replace S3f := S3.thawed
              replace S3z := S3.lt
              replace S3k := lt_add S3z
              replace y0 := y0.keep hkwc
              replace y1 := y1.keep hkwc
              replace yu := yu.keep hkwc
              replace yz := yz.keep hkwc
              replace yq := yq.keep hkwc
              have P12 := P12
              have P12c := P12.cell
              have P12f := P12.thawed
              have P12z := P12.lt
              have P12k := lt_add P12z
              go_wp2_with fail
              refine (matrices_same ⟨R, k, xs⟩ _ _ _ (MatAt.mk x5) (MatAt.mk y0)).mono ?_
              rintro e w6 ⟨rfl, hb6⟩
              have hkw6 : Below wc.heap.size wc w6 := (by repeat (first | fail | (with_reducible exact Below.refl _ _) | (with_reducible refine Below.al ?_ _) | (with_reducible refine Below.drN ?_ _) | (with_reducible refine Below.drew ?_) | (with_reducible refine Below.st ?_ ?_ _; rotate_left 1; (first | (dsimp only; omega) | omega | (simp; omega) | simp)) | (with_reducible refine Below.go ?_ hb6) | exact Below.refl _ _))
              replace X0 := X0.keep hkw6
              replace X0c := X0.cell
              replace X0f := X0.thawed
              replace X0z := X0.lt
              replace X0k := lt_add X0z
              replace G0 := G0.keep hkw6
              replace G0c := G0.cell
              replace G0f := G0.thawed
              replace G0z := G0.lt
              replace G0k := lt_add G0z
              replace S3 := S3.keep hkw6
              replace S3c := S3.cell
              replace S3f := S3.thawed
              replace S3z := S3.lt
              replace S3k := lt_add S3z
              replace y0 := y0.keep hkw6
              replace y1 := y1.keep hkw6
              replace yu := yu.keep hkw6
              replace yz := yz.keep hkw6
              replace yq := yq.keep hkw6
              have hbx6 : Below wr.heap.size wr w6 := (by repeat (first | fail | (with_reducible exact Below.refl _ _) | (with_reducible exact hbx) | (with_reducible refine Below.al ?_ _) | (with_reducible refine Below.drN ?_ _) | (with_reducible refine Below.drew ?_) | (with_reducible refine Below.st ?_ ?_ _; rotate_left 1; (first | (dsimp only; omega) | omega | (simp; omega) | simp)) | (with_reducible refine Below.go ?_ hb6) | exact Below.refl _ _ | exact hbx))
              clear P12 P12c P12f P12z P12k x5
              by_cases hb : (unitL k).backFault ⟨R, k, xs⟩ g = 0
              · have HB := Lib.hid hb
                clear hb
                go_wp2_with fail
                go_cut [13, 15] (fun s13 s15 wx => ∃ p a7 n7 k7 b7 o7, s15 = .pointer (some ⟨p, 0, none⟩) ∧ s13 = .nilIface ∧ Box wx p [.int .i64 g.rows, .int .i64 g.cols, .slice a7 n7 k7] 31 ∧ IntsAt wx a7 n7 k7 b7 o7 g.cells ∧ Below w6.heap.size w6 wx)
                case first =>
                  go_region_held3 (fun w' => w'.cell? ⟨w21.heap.size + 1 + 1, 0, none⟩ = some (.int .i64 1) ∧ w'.cell? ⟨w21.heap.size + 1 + 1, 1, none⟩ = some (.int .i64 k) ∧ w'.cell? ⟨w21.heap.size + 1 + 1, 2, none⟩ = some (.int .i64 k) ∧ w'.cell? ⟨w21.heap.size + 1 + 1, 3, none⟩ = some (.slice (some ⟨bu, 0, none⟩) (k * k) (k * k)) ∧ w'.cell? ⟨w21.heap.size + 1 + 1, 4, none⟩ = some (.int .i64 1) ∧ w'.cell? ⟨w21.heap.size + 1 + 1, 5, none⟩ = some (.int .i64 k) ∧ w'.cell? ⟨w21.heap.size + 1 + 1, 6, none⟩ = some (.slice (some ⟨bz, 0, none⟩) k k) ∧ w'.cell? ⟨w.heap.size, 0, none⟩ = some (.int .i64 R) ∧ w'.cell? ⟨w.heap.size, 1, none⟩ = some (.int .i64 k) ∧ w'.cell? ⟨w.heap.size, 2, none⟩ = some (.slice a0 n0 k0) ∧ w'.cell? ⟨w.heap.size + 1, 0, none⟩ = some (.int .i64 g.rows) ∧ w'.cell? ⟨w.heap.size + 1, 1, none⟩ = some (.int .i64 g.cols) ∧ w'.cell? ⟨w.heap.size + 1, 2, none⟩ = some (.slice a1 n1 k1)) (exact unit13_0 (t := 48) (u := 31) (s := 31) (by repeat (first | fail | (with_reducible exact S3) | (with_reducible refine Box.alloc ?_ _) | (with_reducible refine Box.drewN ?_ _) | (with_reducible refine Box.drew ?_) | (with_reducible refine Box.far ?_ ?_ _; rotate_left 1; (first | (dsimp only; omega) | omega | (simp; omega) | simp)) | (with_reducible refine Box.keep ?_ hb7) | exact S3)) (by repeat (first | fail | (with_reducible exact X0) | (with_reducible refine Box.alloc ?_ _) | (with_reducible refine Box.drewN ?_ _) | (with_reducible refine Box.drew ?_) | (with_reducible refine Box.far ?_ ?_ _; rotate_left 1; (first | (dsimp only; omega) | omega | (simp; omega) | simp)) | (with_reducible refine Box.keep ?_ hb7) | exact X0)) (by repeat (first | fail | (with_reducible exact G0) | (with_reducible refine Box.alloc ?_ _) | (with_reducible refine Box.drewN ?_ _) | (with_reducible refine Box.drew ?_) | (with_reducible refine Box.far ?_ ?_ _; rotate_left 1; (first | (dsimp only; omega) | omega | (simp; omega) | simp)) | (with_reducible refine Box.keep ?_ hb7) | exact G0))) ((go_at_call 37; go_must (refine (layBack_is (l := (unitL k)) ⟨_, _, _, _, _, _, _, _, _, _, rfl, (show IntsAt _ (some ⟨bu, 0, none⟩) (k * k) (k * k) bu 0 (unitTo k k) from (by repeat (first | fail | (with_reducible exact yu) | (with_reducible refine IntsAt.alloc ?_ _) | (with_reducible refine IntsAt.drewN ?_ _) | (with_reducible refine IntsAt.drew ?_) | (with_reducible refine IntsAt.set ?_ ?_ _; rotate_left 1; (intro h0; first | (dsimp only; omega) | omega | (simp; omega) | simp)) | exact yu))), (show IntsAt _ (some ⟨bz, 0, none⟩) k k bz 0 (zeros k) from (by repeat (first | fail | (with_reducible exact yz) | (with_reducible refine IntsAt.alloc ?_ _) | (with_reducible refine IntsAt.drewN ?_ _) | (with_reducible refine IntsAt.drew ?_) | (with_reducible refine IntsAt.set ?_ ?_ _; rotate_left 1; (intro h0; first | (dsimp only; omega) | omega | (simp; omega) | simp)) | exact yz)))⟩ (MatAt.mk (show IntsAt _ a0 n0 k0 b0 o0 xs from (by repeat (first | fail | (with_reducible exact y0) | (with_reducible refine IntsAt.alloc ?_ _) | (with_reducible refine IntsAt.drewN ?_ _) | (with_reducible refine IntsAt.drew ?_) | (with_reducible refine IntsAt.set ?_ ?_ _; rotate_left 1; (intro h0; first | (dsimp only; omega) | omega | (simp; omega) | simp)) | exact y0)))) (MatAt.mk (show IntsAt _ a1 n1 k1 b1 o1 g.cells from (by repeat (first | fail | (with_reducible exact y1) | (with_reducible refine IntsAt.alloc ?_ _) | (with_reducible refine IntsAt.drewN ?_ _) | (with_reducible refine IntsAt.drew ?_) | (with_reducible refine IntsAt.set ?_ ?_ _; rotate_left 1; (intro h0; first | (dsimp only; omega) | omega | (simp; omega) | simp)) | exact y1)))) HB.out (I0.out.back HB.out)).mono ?_); go_must (rintro e w7 ⟨v7, d7, rfl, ⟨a7, n7, k7, b7, o7, rfl, hn7, x7⟩, ⟨a8, n8, k8, b8, o8, a9, n9, k9, b9, o9, rfl, _, _, _, _⟩, hb7⟩); (try (refine (fun (P1 : Box w7 (w6.heap.size) [.int .i64 0, .int .i64 0, .slice none 0 0] 31) => ?_) ?_; rotate_left 1; (with_reducible refine Box.keep ?_ hb7); (focus ((repeat (first | (with_reducible refine (Box.new' _ (w6.heap.size) _ _ ?_); (simp; done)) | (with_reducible refine Box.alloc ?_ _) | (with_reducible refine Box.drew ?_) | (with_reducible refine Box.drewN ?_ _))); done)); have P1c := P1.cell; have P1f := P1.thawed; have P1z := P1.lt)); (try (refine (fun (P2 : Box w7 (w6.heap.size) [.int .i64 0, .int .i64 0, .slice none 0 0, .int .i64 0, .int .i64 0, .slice none 0 0] 51) => ?_) ?_; rotate_left 1; (with_reducible refine Box.keep ?_ hb7); (focus ((repeat (first | (with_reducible refine (Box.new' _ (w6.heap.size) _ _ ?_); (simp; done)) | (with_reducible refine Box.alloc ?_ _) | (with_reducible refine Box.drew ?_) | (with_reducible refine Box.drewN ?_ _))); done)); have P2c := P2.cell; have P2f := P2.thawed; have P2z := P2.lt)); (try (refine (fun (P3 : Box w7 (w6.heap.size + 1) [.int .i64 0, .int .i64 0, .slice none 0 0] 31) => ?_) ?_; rotate_left 1; (with_reducible refine Box.keep ?_ hb7); (focus ((repeat (first | (with_reducible refine (Box.new' _ (w6.heap.size + 1) _ _ ?_); (simp; done)) | (with_reducible refine Box.alloc ?_ _) | (with_reducible refine Box.drew ?_) | (with_reducible refine Box.drewN ?_ _))); done)); have P3c := P3.cell; have P3f := P3.thawed; have P3z := P3.lt)); (try (refine (fun (P4 : Box w7 (w6.heap.size + 1) [.int .i64 0, .int .i64 0, .slice none 0 0, .int .i64 0, .int .i64 0, .slice none 0 0] 51) => ?_) ?_; rotate_left 1; (with_reducible refine Box.keep ?_ hb7); (focus ((repeat (first | (with_reducible refine (Box.new' _ (w6.heap.size + 1) _ _ ?_); (simp; done)) | (with_reducible refine Box.alloc ?_ _) | (with_reducible refine Box.drew ?_) | (with_reducible refine Box.drewN ?_ _))); done)); have P4c := P4.cell; have P4f := P4.thawed; have P4z := P4.lt))))
                  all_goals (
                    go_wp2_with fail
                    go_meet
                    simp at hn7
                    exact ⟨_, a7, n7, k7, b7, o7, rfl, rfl, (by repeat (first | fail | (with_reducible refine (Box.new' _ _ _ _ ?_); (simp; done)) | (with_reducible refine Box.alloc ?_ _) | (with_reducible refine Box.drewN ?_ _) | (with_reducible refine Box.drew ?_) | (with_reducible refine Box.set6z ?_ _ _ _ _ _ _) | (with_reducible refine Box.set3z ?_ _ _ _) | (with_reducible refine Box.far ?_ ?_ _; rotate_left 1; (first | (dsimp only; omega) | omega | (simp; omega) | simp)) | (with_reducible refine Box.keep ?_ hb7))), (by repeat (first | fail | (with_reducible exact x7) | (with_reducible refine IntsAt.alloc ?_ _) | (with_reducible refine IntsAt.drewN ?_ _) | (with_reducible refine IntsAt.drew ?_) | (with_reducible refine IntsAt.set ?_ ?_ _; rotate_left 1; (intro h0; have hq0 := hn7 h0; first | (dsimp only; omega) | omega | (simp; omega) | simp)) | exact x7)), (by repeat (first | fail | (with_reducible exact Below.refl _ _) | (with_reducible refine Below.al ?_ _) | (with_reducible refine Below.drN ?_ _) | (with_reducible refine Below.drew ?_) | (with_reducible refine Below.st ?_ ?_ _; rotate_left 1; (first | (dsimp only; omega) | omega | (simp; omega) | simp)) | (with_reducible refine Below.go ?_ hb7) | exact Below.refl _ _))⟩)
                case rest =>
                  obtain ⟨p, a7, n7, k7, b7, o7, rfl, rfl, P15, x7, hby⟩ := hcut
                  have hkwc : Below w6.heap.size w6 wc := (by repeat (first | fail | (with_reducible exact Below.refl _ _) | (with_reducible refine Below.al ?_ _) | (with_reducible refine Below.drN ?_ _) | (with_reducible refine Below.drew ?_) | (with_reducible refine Below.st ?_ ?_ _; rotate_left 1; (first | (dsimp only; omega) | omega | (simp; omega) | simp)) | (with_reducible refine Below.go ?_ hby) | exact Below.refl _ _))
                  replace X0 := X0.keep hkwc
                  replace X0c := X0.cell
                  replace X0f := X0.thawed
                  replace X0z := X0.lt
                  replace X0k := lt_add X0z
                  replace G0 := G0.keep hkwc
                  replace G0c := G0.cell
                  replace G0f := G0.thawed
                  replace G0z := G0.lt
                  replace G0k := lt_add G0z
                  replace S3 := S3.keep hkwc
                  replace S3c := S3.cell
                  replace S3f := S3.thawed
                  replace S3z := S3.lt
                  replace S3k := lt_add S3z
                  replace y0 := y0.keep hkwc
                  replace y1 := y1.keep hkwc
                  replace yu := yu.keep hkwc
                  replace yz := yz.keep hkwc
                  replace yq := yq.keep hkwc
                  have P15 := P15
                  have P15c := P15.cell
                  have P15f := P15.thawed
                  have P15z := P15.lt
                  have P15k := lt_add P15z
                  go_wp2_with fail
                  refine (matrices_same g _ _ _ (MatAt.mk x7) (MatAt.mk y1)).mono ?_
                  rintro e w8 ⟨rfl, hb8⟩
                  have hbe : Below wr.heap.size wr w8 := (by repeat (first | fail | (with_reducible exact Below.refl _ _) | (with_reducible exact hbx6) | (with_reducible refine Below.al ?_ _) | (with_reducible refine Below.drN ?_ _) | (with_reducible refine Below.drew ?_) | (with_reducible refine Below.st ?_ ?_ _; rotate_left 1; (first | (dsimp only; omega) | omega | (simp; omega) | simp)) | (with_reducible refine Below.go ?_ hb8) | (with_reducible refine Below.go ?_ hby) | exact Below.refl _ _ | exact hbx6))
                  go_wp2
                  go_roundw
                  case rel => exact ⟨1, by omega, by go_num, (by repeat (first | fail | (with_reducible exact Below.refl _ _) | (with_reducible exact hbr2) | (with_reducible refine Below.al ?_ _) | (with_reducible refine Below.drN ?_ _) | (with_reducible refine Below.drew ?_) | (with_reducible refine Below.st ?_ ?_ _; rotate_left 1; (first | (dsimp only; omega) | omega | (simp; omega) | simp)) | (with_reducible refine Below.go ?_ hbe) | exact Below.refl _ _ | exact hbr2))⟩
                  case measure => simp [intOf]
              · have HB := Lib.hid hb
                clear hb
                go_wp2_with fail
                go_cut [13] (fun s13 wx => ∃ f : Int, s13 = .iface 26 (.int .i64 f) ∧ Below w6.heap.size w6 wx)
                case first =>
                  go_region_held3 (fun w' => w'.cell? ⟨w21.heap.size + 1 + 1, 0, none⟩ = some (.int .i64 1) ∧ w'.cell? ⟨w21.heap.size + 1 + 1, 1, none⟩ = some (.int .i64 k) ∧ w'.cell? ⟨w21.heap.size + 1 + 1, 2, none⟩ = some (.int .i64 k) ∧ w'.cell? ⟨w21.heap.size + 1 + 1, 3, none⟩ = some (.slice (some ⟨bu, 0, none⟩) (k * k) (k * k)) ∧ w'.cell? ⟨w21.heap.size + 1 + 1, 4, none⟩ = some (.int .i64 1) ∧ w'.cell? ⟨w21.heap.size + 1 + 1, 5, none⟩ = some (.int .i64 k) ∧ w'.cell? ⟨w21.heap.size + 1 + 1, 6, none⟩ = some (.slice (some ⟨bz, 0, none⟩) k k) ∧ w'.cell? ⟨w.heap.size, 0, none⟩ = some (.int .i64 R) ∧ w'.cell? ⟨w.heap.size, 1, none⟩ = some (.int .i64 k) ∧ w'.cell? ⟨w.heap.size, 2, none⟩ = some (.slice a0 n0 k0) ∧ w'.cell? ⟨w.heap.size + 1, 0, none⟩ = some (.int .i64 g.rows) ∧ w'.cell? ⟨w.heap.size + 1, 1, none⟩ = some (.int .i64 g.cols) ∧ w'.cell? ⟨w.heap.size + 1, 2, none⟩ = some (.slice a1 n1 k1)) (exact unit13_0 (t := 48) (u := 31) (s := 31) (by repeat (first | fail | (with_reducible exact S3) | (with_reducible refine Box.alloc ?_ _) | (with_reducible refine Box.drewN ?_ _) | (with_reducible refine Box.drew ?_) | (with_reducible refine Box.far ?_ ?_ _; rotate_left 1; (first | (dsimp only; omega) | omega | (simp; omega) | simp)) | (with_reducible refine Box.keep ?_ hb7) | exact S3)) (by repeat (first | fail | (with_reducible exact X0) | (with_reducible refine Box.alloc ?_ _) | (with_reducible refine Box.drewN ?_ _) | (with_reducible refine Box.drew ?_) | (with_reducible refine Box.far ?_ ?_ _; rotate_left 1; (first | (dsimp only; omega) | omega | (simp; omega) | simp)) | (with_reducible refine Box.keep ?_ hb7) | exact X0)) (by repeat (first | fail | (with_reducible exact G0) | (with_reducible refine Box.alloc ?_ _) | (with_reducible refine Box.drewN ?_ _) | (with_reducible refine Box.drew ?_) | (with_reducible refine Box.far ?_ ?_ _; rotate_left 1; (first | (dsimp only; omega) | omega | (simp; omega) | simp)) | (with_reducible refine Box.keep ?_ hb7) | exact G0))) ((go_at_call 37; go_must (refine (layBack_not (l := (unitL k)) ⟨_, _, _, _, _, _, _, _, _, _, rfl, (show IntsAt _ (some ⟨bu, 0, none⟩) (k * k) (k * k) bu 0 (unitTo k k) from (by repeat (first | fail | (with_reducible exact yu) | (with_reducible refine IntsAt.alloc ?_ _) | (with_reducible refine IntsAt.drewN ?_ _) | (with_reducible refine IntsAt.drew ?_) | (with_reducible refine IntsAt.set ?_ ?_ _; rotate_left 1; (intro h0; first | (dsimp only; omega) | omega | (simp; omega) | simp)) | exact yu))), (show IntsAt _ (some ⟨bz, 0, none⟩) k k bz 0 (zeros k) from (by repeat (first | fail | (with_reducible exact yz) | (with_reducible refine IntsAt.alloc ?_ _) | (with_reducible refine IntsAt.drewN ?_ _) | (with_reducible refine IntsAt.drew ?_) | (with_reducible refine IntsAt.set ?_ ?_ _; rotate_left 1; (intro h0; first | (dsimp only; omega) | omega | (simp; omega) | simp)) | exact yz)))⟩ (MatAt.mk (show IntsAt _ a0 n0 k0 b0 o0 xs from (by repeat (first | fail | (with_reducible exact y0) | (with_reducible refine IntsAt.alloc ?_ _) | (with_reducible refine IntsAt.drewN ?_ _) | (with_reducible refine IntsAt.drew ?_) | (with_reducible refine IntsAt.set ?_ ?_ _; rotate_left 1; (intro h0; first | (dsimp only; omega) | omega | (simp; omega) | simp)) | exact y0)))) (MatAt.mk (show IntsAt _ a1 n1 k1 b1 o1 g.cells from (by repeat (first | fail | (with_reducible exact y1) | (with_reducible refine IntsAt.alloc ?_ _) | (with_reducible refine IntsAt.drewN ?_ _) | (with_reducible refine IntsAt.drew ?_) | (with_reducible refine IntsAt.set ?_ ?_ _; rotate_left 1; (intro h0; first | (dsimp only; omega) | omega | (simp; omega) | simp)) | exact y1)))) HB.out).mono ?_); go_must (rintro e w7 ⟨v7, d7, rfl, ⟨a7, n7, k7, b7, o7, rfl, hn7, x7⟩, ⟨a8, n8, k8, b8, o8, a9, n9, k9, b9, o9, rfl, _, _, _, _⟩, hb7⟩); (try (refine (fun (P1 : Box w7 (w6.heap.size) [.int .i64 0, .int .i64 0, .slice none 0 0] 31) => ?_) ?_; rotate_left 1; (with_reducible refine Box.keep ?_ hb7); (focus ((repeat (first | (with_reducible refine (Box.new' _ (w6.heap.size) _ _ ?_); (simp; done)) | (with_reducible refine Box.alloc ?_ _) | (with_reducible refine Box.drew ?_) | (with_reducible refine Box.drewN ?_ _))); done)); have P1c := P1.cell; have P1f := P1.thawed; have P1z := P1.lt)); (try (refine (fun (P2 : Box w7 (w6.heap.size) [.int .i64 0, .int .i64 0, .slice none 0 0, .int .i64 0, .int .i64 0, .slice none 0 0] 51) => ?_) ?_; rotate_left 1; (with_reducible refine Box.keep ?_ hb7); (focus ((repeat (first | (with_reducible refine (Box.new' _ (w6.heap.size) _ _ ?_); (simp; done)) | (with_reducible refine Box.alloc ?_ _) | (with_reducible refine Box.drew ?_) | (with_reducible refine Box.drewN ?_ _))); done)); have P2c := P2.cell; have P2f := P2.thawed; have P2z := P2.lt)); (try (refine (fun (P3 : Box w7 (w6.heap.size + 1) [.int .i64 0, .int .i64 0, .slice none 0 0] 31) => ?_) ?_; rotate_left 1; (with_reducible refine Box.keep ?_ hb7); (focus ((repeat (first | (with_reducible refine (Box.new' _ (w6.heap.size + 1) _ _ ?_); (simp; done)) | (with_reducible refine Box.alloc ?_ _) | (with_reducible refine Box.drew ?_) | (with_reducible refine Box.drewN ?_ _))); done)); have P3c := P3.cell; have P3f := P3.thawed; have P3z := P3.lt)); (try (refine (fun (P4 : Box w7 (w6.heap.size + 1) [.int .i64 0, .int .i64 0, .slice none 0 0, .int .i64 0, .int .i64 0, .slice none 0 0] 51) => ?_) ?_; rotate_left 1; (with_reducible refine Box.keep ?_ hb7); (focus ((repeat (first | (with_reducible refine (Box.new' _ (w6.heap.size + 1) _ _ ?_); (simp; done)) | (with_reducible refine Box.alloc ?_ _) | (with_reducible refine Box.drew ?_) | (with_reducible refine Box.drewN ?_ _))); done)); have P4c := P4.cell; have P4f := P4.thawed; have P4z := P4.lt))))
                  all_goals (
                    go_wp2_with fail
                    go_meet
                    exact ⟨_, rfl, (by repeat (first | fail | (with_reducible exact Below.refl _ _) | (with_reducible refine Below.al ?_ _) | (with_reducible refine Below.drN ?_ _) | (with_reducible refine Below.drew ?_) | (with_reducible refine Below.st ?_ ?_ _; rotate_left 1; (first | (dsimp only; omega) | omega | (simp; omega) | simp)) | (with_reducible refine Below.go ?_ hb7) | exact Below.refl _ _))⟩)
                case rest =>
                  obtain ⟨f, rfl, hby⟩ := hcut
                  have hbe : Below wr.heap.size wr wc := (by repeat (first | fail | (with_reducible exact Below.refl _ _) | (with_reducible exact hbx6) | (with_reducible refine Below.al ?_ _) | (with_reducible refine Below.drN ?_ _) | (with_reducible refine Below.drew ?_) | (with_reducible refine Below.st ?_ ?_ _; rotate_left 1; (first | (dsimp only; omega) | omega | (simp; omega) | simp)) | (with_reducible refine Below.go ?_ hby) | exact Below.refl _ _ | exact hbx6))
                  go_wp2
                  go_roundw
                  case rel => exact ⟨1, by omega, by go_num, (by repeat (first | fail | (with_reducible exact Below.refl _ _) | (with_reducible exact hbr2) | (with_reducible refine Below.al ?_ _) | (with_reducible refine Below.drN ?_ _) | (with_reducible refine Below.drew ?_) | (with_reducible refine Below.st ?_ ?_ _; rotate_left 1; (first | (dsimp only; omega) | omega | (simp; omega) | simp)) | (with_reducible refine Below.go ?_ hbe) | exact Below.refl _ _ | exact hbr2))⟩
                  case measure => simp [intOf]
          · skip
            go_wp2_with fail
            go_cut [12, 13] (fun s12 s13 wx => ∃ p a5 n5 k5 b5 o5, s12 = .pointer (some ⟨p, 0, none⟩) ∧ s13 = .nilIface ∧ Box wx p [.int .i64 R, .int .i64 k, .slice a5 n5 k5] 31 ∧ IntsAt wx a5 n5 k5 b5 o5 xs ∧ Below wr.heap.size wr wx)
            case first =>
              go_region_held3 (fun w' => w'.cell? ⟨w21.heap.size + 1 + 1, 7, none⟩ = some (.int .i64 3) ∧ w'.cell? ⟨w21.heap.size + 1 + 1, 8, none⟩ = some (.int .i64 1) ∧ w'.cell? ⟨w21.heap.size + 1 + 1, 9, none⟩ = some (.int .i64 1) ∧ w'.cell? ⟨w21.heap.size + 1 + 1, 10, none⟩ = some (.slice (some ⟨w21.heap.size + 1, 0, none⟩) 1 1) ∧ w'.cell? ⟨w21.heap.size + 1 + 1, 11, none⟩ = some (.int .i64 0) ∧ w'.cell? ⟨w21.heap.size + 1 + 1, 12, none⟩ = some (.int .i64 0) ∧ w'.cell? ⟨w21.heap.size + 1 + 1, 13, none⟩ = some (.slice none 0 0) ∧ w'.cell? ⟨w.heap.size, 0, none⟩ = some (.int .i64 R) ∧ w'.cell? ⟨w.heap.size, 1, none⟩ = some (.int .i64 k) ∧ w'.cell? ⟨w.heap.size, 2, none⟩ = some (.slice a0 n0 k0)) (exact unit10_1 (t := 48) (u := 31) (by repeat (first | fail | (with_reducible exact S3) | (with_reducible refine Box.alloc ?_ _) | (with_reducible refine Box.drewN ?_ _) | (with_reducible refine Box.drew ?_) | (with_reducible refine Box.far ?_ ?_ _; rotate_left 1; (first | (dsimp only; omega) | omega | (simp; omega) | simp)) | (with_reducible refine Box.keep ?_ hb5) | exact S3)) (by repeat (first | fail | (with_reducible exact X0) | (with_reducible refine Box.alloc ?_ _) | (with_reducible refine Box.drewN ?_ _) | (with_reducible refine Box.drew ?_) | (with_reducible refine Box.far ?_ ?_ _; rotate_left 1; (first | (dsimp only; omega) | omega | (simp; omega) | simp)) | (with_reducible refine Box.keep ?_ hb5) | exact X0))) ((go_at_call 36; go_must (refine (layGo_is (l := oneL) ⟨_, _, _, _, _, _, _, _, _, _, rfl, (show IntsAt _ (some ⟨w21.heap.size + 1, 0, none⟩) 1 1 (w21.heap.size + 1) 0 [256] from (by repeat (first | fail | (with_reducible exact yq) | (with_reducible refine IntsAt.alloc ?_ _) | (with_reducible refine IntsAt.drewN ?_ _) | (with_reducible refine IntsAt.drew ?_) | (with_reducible refine IntsAt.set ?_ ?_ _; rotate_left 1; (intro h0; first | (dsimp only; omega) | omega | (simp; omega) | simp)) | exact yq))), (noInts _)⟩ (MatAt.mk (show IntsAt _ a0 n0 k0 b0 o0 xs from (by repeat (first | fail | (with_reducible exact y0) | (with_reducible refine IntsAt.alloc ?_ _) | (with_reducible refine IntsAt.drewN ?_ _) | (with_reducible refine IntsAt.drew ?_) | (with_reducible refine IntsAt.set ?_ ?_ _; rotate_left 1; (intro h0; first | (dsimp only; omega) | omega | (simp; omega) | simp)) | exact y0)))) I1.out.go I1.out.is).mono ?_); go_must (rintro e w5 ⟨v5, rfl, ⟨a5, n5, k5, b5, o5, rfl, hn5, x5⟩, hb5⟩); (try (refine (fun (P1 : Box w5 (wr.heap.size) [.int .i64 0, .int .i64 0, .slice none 0 0] 31) => ?_) ?_; rotate_left 1; (with_reducible refine Box.keep ?_ hb5); (focus ((repeat (first | (with_reducible refine (Box.new' _ (wr.heap.size) _ _ ?_); (simp; done)) | (with_reducible refine Box.alloc ?_ _) | (with_reducible refine Box.drew ?_) | (with_reducible refine Box.drewN ?_ _))); done)); have P1c := P1.cell; have P1f := P1.thawed; have P1z := P1.lt))))
              all_goals (
                go_wp2_with fail
                go_meet
                simp at hn5
                exact ⟨_, a5, n5, k5, b5, o5, rfl, rfl, (by repeat (first | fail | (with_reducible refine (Box.new' _ _ _ _ ?_); (simp; done)) | (with_reducible refine Box.alloc ?_ _) | (with_reducible refine Box.drewN ?_ _) | (with_reducible refine Box.drew ?_) | (with_reducible refine Box.set6z ?_ _ _ _ _ _ _) | (with_reducible refine Box.set3z ?_ _ _ _) | (with_reducible refine Box.far ?_ ?_ _; rotate_left 1; (first | (dsimp only; omega) | omega | (simp; omega) | simp)) | (with_reducible refine Box.keep ?_ hb5))), (by repeat (first | fail | (with_reducible exact x5) | (with_reducible refine IntsAt.alloc ?_ _) | (with_reducible refine IntsAt.drewN ?_ _) | (with_reducible refine IntsAt.drew ?_) | (with_reducible refine IntsAt.set ?_ ?_ _; rotate_left 1; (intro h0; have hq0 := hn5 h0; first | (dsimp only; omega) | omega | (simp; omega) | simp)) | exact x5)), (by repeat (first | fail | (with_reducible exact Below.refl _ _) | (with_reducible refine Below.al ?_ _) | (with_reducible refine Below.drN ?_ _) | (with_reducible refine Below.drew ?_) | (with_reducible refine Below.st ?_ ?_ _; rotate_left 1; (first | (dsimp only; omega) | omega | (simp; omega) | simp)) | (with_reducible refine Below.go ?_ hb5) | exact Below.refl _ _))⟩)
            case rest =>
              obtain ⟨p, a5, n5, k5, b5, o5, rfl, rfl, P12, x5, hbx⟩ := hcut
              have hkwc : Below wr.heap.size wr wc := (by repeat (first | fail | (with_reducible exact Below.refl _ _) | (with_reducible refine Below.al ?_ _) | (with_reducible refine Below.drN ?_ _) | (with_reducible refine Below.drew ?_) | (with_reducible refine Below.st ?_ ?_ _; rotate_left 1; (first | (dsimp only; omega) | omega | (simp; omega) | simp)) | (with_reducible refine Below.go ?_ hbx) | exact Below.refl _ _))
              replace X0 := X0.keep hkwc
              replace X0c := X0.cell
              replace X0f := X0.thawed
              replace X0z := X0.lt
              replace X0k := lt_add X0z
              replace G0 := G0.keep hkwc
              replace G0c := G0.cell
              replace G0f := G0.thawed
              replace G0z := G0.lt
              replace G0k := lt_add G0z
              replace S3 := S3.keep hkwc
              replace S3c := S3.cell
              replace S3f := S3.thawed
              replace S3z := S3.lt
              replace S3k := lt_add S3z
              replace y0 := y0.keep hkwc
              replace y1 := y1.keep hkwc
              replace yu := yu.keep hkwc
              replace yz := yz.keep hkwc
              replace yq := yq.keep hkwc
              have P12 := P12
              have P12c := P12.cell
              have P12f := P12.thawed
              have P12z := P12.lt
              have P12k := lt_add P12z
              go_wp2_with fail
              refine (matrices_same ⟨R, k, xs⟩ _ _ _ (MatAt.mk x5) (MatAt.mk y0)).mono ?_
              rintro e w6 ⟨rfl, hb6⟩
              have hkw6 : Below wc.heap.size wc w6 := (by repeat (first | fail | (with_reducible exact Below.refl _ _) | (with_reducible refine Below.al ?_ _) | (with_reducible refine Below.drN ?_ _) | (with_reducible refine Below.drew ?_) | (with_reducible refine Below.st ?_ ?_ _; rotate_left 1; (first | (dsimp only; omega) | omega | (simp; omega) | simp)) | (with_reducible refine Below.go ?_ hb6) | exact Below.refl _ _))
              replace X0 := X0.keep hkw6
              replace X0c := X0.cell
              replace X0f := X0.thawed
              replace X0z := X0.lt
              replace X0k := lt_add X0z
              replace G0 := G0.keep hkw6
              replace G0c := G0.cell
              replace G0f := G0.thawed
              replace G0z := G0.lt
              replace G0k := lt_add G0z
              replace S3 := S3.keep hkw6
              replace S3c := S3.cell
              replace S3f := S3.thawed
              replace S3z := S3.lt
              replace S3k := lt_add S3z
              replace y0 := y0.keep hkw6
              replace y1 := y1.keep hkw6
              replace yu := yu.keep hkw6
              replace yz := yz.keep hkw6
              replace yq := yq.keep hkw6
              have hbx6 : Below wr.heap.size wr w6 := (by repeat (first | fail | (with_reducible exact Below.refl _ _) | (with_reducible exact hbx) | (with_reducible refine Below.al ?_ _) | (with_reducible refine Below.drN ?_ _) | (with_reducible refine Below.drew ?_) | (with_reducible refine Below.st ?_ ?_ _; rotate_left 1; (first | (dsimp only; omega) | omega | (simp; omega) | simp)) | (with_reducible refine Below.go ?_ hb6) | exact Below.refl _ _ | exact hbx))
              clear P12 P12c P12f P12z P12k x5
              by_cases hb : oneL.backFault ⟨R, k, xs⟩ g = 0
              · have HB := Lib.hid hb
                clear hb
                go_wp2_with fail
                go_cut [13, 15] (fun s13 s15 wx => ∃ p a7 n7 k7 b7 o7, s15 = .pointer (some ⟨p, 0, none⟩) ∧ s13 = .nilIface ∧ Box wx p [.int .i64 g.rows, .int .i64 g.cols, .slice a7 n7 k7] 31 ∧ IntsAt wx a7 n7 k7 b7 o7 g.cells ∧ Below w6.heap.size w6 wx)
                case first =>
                  go_region_held3 (fun w' => w'.cell? ⟨w21.heap.size + 1 + 1, 7, none⟩ = some (.int .i64 3) ∧ w'.cell? ⟨w21.heap.size + 1 + 1, 8, none⟩ = some (.int .i64 1) ∧ w'.cell? ⟨w21.heap.size + 1 + 1, 9, none⟩ = some (.int .i64 1) ∧ w'.cell? ⟨w21.heap.size + 1 + 1, 10, none⟩ = some (.slice (some ⟨w21.heap.size + 1, 0, none⟩) 1 1) ∧ w'.cell? ⟨w21.heap.size + 1 + 1, 11, none⟩ = some (.int .i64 0) ∧ w'.cell? ⟨w21.heap.size + 1 + 1, 12, none⟩ = some (.int .i64 0) ∧ w'.cell? ⟨w21.heap.size + 1 + 1, 13, none⟩ = some (.slice none 0 0) ∧ w'.cell? ⟨w.heap.size, 0, none⟩ = some (.int .i64 R) ∧ w'.cell? ⟨w.heap.size, 1, none⟩ = some (.int .i64 k) ∧ w'.cell? ⟨w.heap.size, 2, none⟩ = some (.slice a0 n0 k0) ∧ w'.cell? ⟨w.heap.size + 1, 0, none⟩ = some (.int .i64 g.rows) ∧ w'.cell? ⟨w.heap.size + 1, 1, none⟩ = some (.int .i64 g.cols) ∧ w'.cell? ⟨w.heap.size + 1, 2, none⟩ = some (.slice a1 n1 k1)) (exact unit13_1 (t := 48) (u := 31) (s := 31) (by repeat (first | fail | (with_reducible exact S3) | (with_reducible refine Box.alloc ?_ _) | (with_reducible refine Box.drewN ?_ _) | (with_reducible refine Box.drew ?_) | (with_reducible refine Box.far ?_ ?_ _; rotate_left 1; (first | (dsimp only; omega) | omega | (simp; omega) | simp)) | (with_reducible refine Box.keep ?_ hb7) | exact S3)) (by repeat (first | fail | (with_reducible exact X0) | (with_reducible refine Box.alloc ?_ _) | (with_reducible refine Box.drewN ?_ _) | (with_reducible refine Box.drew ?_) | (with_reducible refine Box.far ?_ ?_ _; rotate_left 1; (first | (dsimp only; omega) | omega | (simp; omega) | simp)) | (with_reducible refine Box.keep ?_ hb7) | exact X0)) (by repeat (first | fail | (with_reducible exact G0) | (with_reducible refine Box.alloc ?_ _) | (with_reducible refine Box.drewN ?_ _) | (with_reducible refine Box.drew ?_) | (with_reducible refine Box.far ?_ ?_ _; rotate_left 1; (first | (dsimp only; omega) | omega | (simp; omega) | simp)) | (with_reducible refine Box.keep ?_ hb7) | exact G0))) ((go_at_call 37; go_must (refine (layBack_is (l := oneL) ⟨_, _, _, _, _, _, _, _, _, _, rfl, (show IntsAt _ (some ⟨w21.heap.size + 1, 0, none⟩) 1 1 (w21.heap.size + 1) 0 [256] from (by repeat (first | fail | (with_reducible exact yq) | (with_reducible refine IntsAt.alloc ?_ _) | (with_reducible refine IntsAt.drewN ?_ _) | (with_reducible refine IntsAt.drew ?_) | (with_reducible refine IntsAt.set ?_ ?_ _; rotate_left 1; (intro h0; first | (dsimp only; omega) | omega | (simp; omega) | simp)) | exact yq))), (noInts _)⟩ (MatAt.mk (show IntsAt _ a0 n0 k0 b0 o0 xs from (by repeat (first | fail | (with_reducible exact y0) | (with_reducible refine IntsAt.alloc ?_ _) | (with_reducible refine IntsAt.drewN ?_ _) | (with_reducible refine IntsAt.drew ?_) | (with_reducible refine IntsAt.set ?_ ?_ _; rotate_left 1; (intro h0; first | (dsimp only; omega) | omega | (simp; omega) | simp)) | exact y0)))) (MatAt.mk (show IntsAt _ a1 n1 k1 b1 o1 g.cells from (by repeat (first | fail | (with_reducible exact y1) | (with_reducible refine IntsAt.alloc ?_ _) | (with_reducible refine IntsAt.drewN ?_ _) | (with_reducible refine IntsAt.drew ?_) | (with_reducible refine IntsAt.set ?_ ?_ _; rotate_left 1; (intro h0; first | (dsimp only; omega) | omega | (simp; omega) | simp)) | exact y1)))) HB.out (I1.out.back HB.out)).mono ?_); go_must (rintro e w7 ⟨v7, d7, rfl, ⟨a7, n7, k7, b7, o7, rfl, hn7, x7⟩, ⟨a8, n8, k8, b8, o8, a9, n9, k9, b9, o9, rfl, _, _, _, _⟩, hb7⟩); (try (refine (fun (P1 : Box w7 (w6.heap.size) [.int .i64 0, .int .i64 0, .slice none 0 0] 31) => ?_) ?_; rotate_left 1; (with_reducible refine Box.keep ?_ hb7); (focus ((repeat (first | (with_reducible refine (Box.new' _ (w6.heap.size) _ _ ?_); (simp; done)) | (with_reducible refine Box.alloc ?_ _) | (with_reducible refine Box.drew ?_) | (with_reducible refine Box.drewN ?_ _))); done)); have P1c := P1.cell; have P1f := P1.thawed; have P1z := P1.lt)); (try (refine (fun (P2 : Box w7 (w6.heap.size) [.int .i64 0, .int .i64 0, .slice none 0 0, .int .i64 0, .int .i64 0, .slice none 0 0] 51) => ?_) ?_; rotate_left 1; (with_reducible refine Box.keep ?_ hb7); (focus ((repeat (first | (with_reducible refine (Box.new' _ (w6.heap.size) _ _ ?_); (simp; done)) | (with_reducible refine Box.alloc ?_ _) | (with_reducible refine Box.drew ?_) | (with_reducible refine Box.drewN ?_ _))); done)); have P2c := P2.cell; have P2f := P2.thawed; have P2z := P2.lt)); (try (refine (fun (P3 : Box w7 (w6.heap.size + 1) [.int .i64 0, .int .i64 0, .slice none 0 0] 31) => ?_) ?_; rotate_left 1; (with_reducible refine Box.keep ?_ hb7); (focus ((repeat (first | (with_reducible refine (Box.new' _ (w6.heap.size + 1) _ _ ?_); (simp; done)) | (with_reducible refine Box.alloc ?_ _) | (with_reducible refine Box.drew ?_) | (with_reducible refine Box.drewN ?_ _))); done)); have P3c := P3.cell; have P3f := P3.thawed; have P3z := P3.lt)); (try (refine (fun (P4 : Box w7 (w6.heap.size + 1) [.int .i64 0, .int .i64 0, .slice none 0 0, .int .i64 0, .int .i64 0, .slice none 0 0] 51) => ?_) ?_; rotate_left 1; (with_reducible refine Box.keep ?_ hb7); (focus ((repeat (first | (with_reducible refine (Box.new' _ (w6.heap.size + 1) _ _ ?_); (simp; done)) | (with_reducible refine Box.alloc ?_ _) | (with_reducible refine Box.drew ?_) | (with_reducible refine Box.drewN ?_ _))); done)); have P4c := P4.cell; have P4f := P4.thawed; have P4z := P4.lt))))
                  all_goals (
                    go_wp2_with fail
                    go_meet
                    simp at hn7
                    exact ⟨_, a7, n7, k7, b7, o7, rfl, rfl, (by repeat (first | fail | (with_reducible refine (Box.new' _ _ _ _ ?_); (simp; done)) | (with_reducible refine Box.alloc ?_ _) | (with_reducible refine Box.drewN ?_ _) | (with_reducible refine Box.drew ?_) | (with_reducible refine Box.set6z ?_ _ _ _ _ _ _) | (with_reducible refine Box.set3z ?_ _ _ _) | (with_reducible refine Box.far ?_ ?_ _; rotate_left 1; (first | (dsimp only; omega) | omega | (simp; omega) | simp)) | (with_reducible refine Box.keep ?_ hb7))), (by repeat (first | fail | (with_reducible exact x7) | (with_reducible refine IntsAt.alloc ?_ _) | (with_reducible refine IntsAt.drewN ?_ _) | (with_reducible refine IntsAt.drew ?_) | (with_reducible refine IntsAt.set ?_ ?_ _; rotate_left 1; (intro h0; have hq0 := hn7 h0; first | (dsimp only; omega) | omega | (simp; omega) | simp)) | exact x7)), (by repeat (first | fail | (with_reducible exact Below.refl _ _) | (with_reducible refine Below.al ?_ _) | (with_reducible refine Below.drN ?_ _) | (with_reducible refine Below.drew ?_) | (with_reducible refine Below.st ?_ ?_ _; rotate_left 1; (first | (dsimp only; omega) | omega | (simp; omega) | simp)) | (with_reducible refine Below.go ?_ hb7) | exact Below.refl _ _))⟩)
                case rest =>
                  obtain ⟨p, a7, n7, k7, b7, o7, rfl, rfl, P15, x7, hby⟩ := hcut
                  have hkwc : Below w6.heap.size w6 wc := (by repeat (first | fail | (with_reducible exact Below.refl _ _) | (with_reducible refine Below.al ?_ _) | (with_reducible refine Below.drN ?_ _) | (with_reducible refine Below.drew ?_) | (with_reducible refine Below.st ?_ ?_ _; rotate_left 1; (first | (dsimp only; omega) | omega | (simp; omega) | simp)) | (with_reducible refine Below.go ?_ hby) | exact Below.refl _ _))
                  replace X0 := X0.keep hkwc
                  replace X0c := X0.cell
                  replace X0f := X0.thawed
                  replace X0z := X0.lt
                  replace X0k := lt_add X0z
                  replace G0 := G0.keep hkwc
                  replace G0c := G0.cell
                  replace G0f := G0.thawed
                  replace G0z := G0.lt
                  replace G0k := lt_add G0z
                  replace S3 := S3.keep hkwc
                  replace S3c := S3.cell
                  replace S3f := S3.thawed
                  replace S3z := S3.lt
                  replace S3k := lt_add S3z
                  replace y0 := y0.keep hkwc
                  replace y1 := y1.keep hkwc
                  replace yu := yu.keep hkwc
                  replace yz := yz.keep hkwc
                  replace yq := yq.keep hkwc
                  have P15 := P15
                  have P15c := P15.cell
                  have P15f := P15.thawed
                  have P15z := P15.lt
                  have P15k := lt_add P15z
                  go_wp2_with fail
                  refine (matrices_same g _ _ _ (MatAt.mk x7) (MatAt.mk y1)).mono ?_
                  rintro e w8 ⟨rfl, hb8⟩
                  have hbe : Below wr.heap.size wr w8 := (by repeat (first | fail | (with_reducible exact Below.refl _ _) | (with_reducible exact hbx6) | (with_reducible refine Below.al ?_ _) | (with_reducible refine Below.drN ?_ _) | (with_reducible refine Below.drew ?_) | (with_reducible refine Below.st ?_ ?_ _; rotate_left 1; (first | (dsimp only; omega) | omega | (simp; omega) | simp)) | (with_reducible refine Below.go ?_ hb8) | (with_reducible refine Below.go ?_ hby) | exact Below.refl _ _ | exact hbx6))
                  go_wp2
                  go_roundw
                  case rel => exact ⟨2, by omega, by go_num, (by repeat (first | fail | (with_reducible exact Below.refl _ _) | (with_reducible exact hbr2) | (with_reducible refine Below.al ?_ _) | (with_reducible refine Below.drN ?_ _) | (with_reducible refine Below.drew ?_) | (with_reducible refine Below.st ?_ ?_ _; rotate_left 1; (first | (dsimp only; omega) | omega | (simp; omega) | simp)) | (with_reducible refine Below.go ?_ hbe) | exact Below.refl _ _ | exact hbr2))⟩
                  case measure => simp [intOf]
              · have HB := Lib.hid hb
                clear hb
                go_wp2_with fail
                go_cut [13] (fun s13 wx => ∃ f : Int, s13 = .iface 26 (.int .i64 f) ∧ Below w6.heap.size w6 wx)
                case first =>
                  go_region_held3 (fun w' => w'.cell? ⟨w21.heap.size + 1 + 1, 7, none⟩ = some (.int .i64 3) ∧ w'.cell? ⟨w21.heap.size + 1 + 1, 8, none⟩ = some (.int .i64 1) ∧ w'.cell? ⟨w21.heap.size + 1 + 1, 9, none⟩ = some (.int .i64 1) ∧ w'.cell? ⟨w21.heap.size + 1 + 1, 10, none⟩ = some (.slice (some ⟨w21.heap.size + 1, 0, none⟩) 1 1) ∧ w'.cell? ⟨w21.heap.size + 1 + 1, 11, none⟩ = some (.int .i64 0) ∧ w'.cell? ⟨w21.heap.size + 1 + 1, 12, none⟩ = some (.int .i64 0) ∧ w'.cell? ⟨w21.heap.size + 1 + 1, 13, none⟩ = some (.slice none 0 0) ∧ w'.cell? ⟨w.heap.size, 0, none⟩ = some (.int .i64 R) ∧ w'.cell? ⟨w.heap.size, 1, none⟩ = some (.int .i64 k) ∧ w'.cell? ⟨w.heap.size, 2, none⟩ = some (.slice a0 n0 k0) ∧ w'.cell? ⟨w.heap.size + 1, 0, none⟩ = some (.int .i64 g.rows) ∧ w'.cell? ⟨w.heap.size + 1, 1, none⟩ = some (.int .i64 g.cols) ∧ w'.cell? ⟨w.heap.size + 1, 2, none⟩ = some (.slice a1 n1 k1)) (exact unit13_1 (t := 48) (u := 31) (s := 31) (by repeat (first | fail | (with_reducible exact S3) | (with_reducible refine Box.alloc ?_ _) | (with_reducible refine Box.drewN ?_ _) | (with_reducible refine Box.drew ?_) | (with_reducible refine Box.far ?_ ?_ _; rotate_left 1; (first | (dsimp only; omega) | omega | (simp; omega) | simp)) | (with_reducible refine Box.keep ?_ hb7) | exact S3)) (by repeat (first | fail | (with_reducible exact X0) | (with_reducible refine Box.alloc ?_ _) | (with_reducible refine Box.drewN ?_ _) | (with_reducible refine Box.drew ?_) | (with_reducible refine Box.far ?_ ?_ _; rotate_left 1; (first | (dsimp only; omega) | omega | (simp; omega) | simp)) | (with_reducible refine Box.keep ?_ hb7) | exact X0)) (by repeat (first | fail | (with_reducible exact G0) | (with_reducible refine Box.alloc ?_ _) | (with_reducible refine Box.drewN ?_ _) | (with_reducible refine Box.drew ?_) | (with_reducible refine Box.far ?_ ?_ _; rotate_left 1; (first | (dsimp only; omega) | omega | (simp; omega) | simp)) | (with_reducible refine Box.keep ?_ hb7) | exact G0))) ((go_at_call 37; go_must (refine (layBack_not (l := oneL) ⟨_, _, _, _, _, _, _, _, _, _, rfl, (show IntsAt _ (some ⟨w21.heap.size + 1, 0, none⟩) 1 1 (w21.heap.size + 1) 0 [256] from (by repeat (first | fail | (with_reducible exact yq) | (with_reducible refine IntsAt.alloc ?_ _) | (with_reducible refine IntsAt.drewN ?_ _) | (with_reducible refine IntsAt.drew ?_) | (with_reducible refine IntsAt.set ?_ ?_ _; rotate_left 1; (intro h0; first | (dsimp only; omega) | omega | (simp; omega) | simp)) | exact yq))), (noInts _)⟩ (MatAt.mk (show IntsAt _ a0 n0 k0 b0 o0 xs from (by repeat (first | fail | (with_reducible exact y0) | (with_reducible refine IntsAt.alloc ?_ _) | (with_reducible refine IntsAt.drewN ?_ _) | (with_reducible refine IntsAt.drew ?_) | (with_reducible refine IntsAt.set ?_ ?_ _; rotate_left 1; (intro h0; first | (dsimp only; omega) | omega | (simp; omega) | simp)) | exact y0)))) (MatAt.mk (show IntsAt _ a1 n1 k1 b1 o1 g.cells from (by repeat (first | fail | (with_reducible exact y1) | (with_reducible refine IntsAt.alloc ?_ _) | (with_reducible refine IntsAt.drewN ?_ _) | (with_reducible refine IntsAt.drew ?_) | (with_reducible refine IntsAt.set ?_ ?_ _; rotate_left 1; (intro h0; first | (dsimp only; omega) | omega | (simp; omega) | simp)) | exact y1)))) HB.out).mono ?_); go_must (rintro e w7 ⟨v7, d7, rfl, ⟨a7, n7, k7, b7, o7, rfl, hn7, x7⟩, ⟨a8, n8, k8, b8, o8, a9, n9, k9, b9, o9, rfl, _, _, _, _⟩, hb7⟩); (try (refine (fun (P1 : Box w7 (w6.heap.size) [.int .i64 0, .int .i64 0, .slice none 0 0] 31) => ?_) ?_; rotate_left 1; (with_reducible refine Box.keep ?_ hb7); (focus ((repeat (first | (with_reducible refine (Box.new' _ (w6.heap.size) _ _ ?_); (simp; done)) | (with_reducible refine Box.alloc ?_ _) | (with_reducible refine Box.drew ?_) | (with_reducible refine Box.drewN ?_ _))); done)); have P1c := P1.cell; have P1f := P1.thawed; have P1z := P1.lt)); (try (refine (fun (P2 : Box w7 (w6.heap.size) [.int .i64 0, .int .i64 0, .slice none 0 0, .int .i64 0, .int .i64 0, .slice none 0 0] 51) => ?_) ?_; rotate_left 1; (with_reducible refine Box.keep ?_ hb7); (focus ((repeat (first | (with_reducible refine (Box.new' _ (w6.heap.size) _ _ ?_); (simp; done)) | (with_reducible refine Box.alloc ?_ _) | (with_reducible refine Box.drew ?_) | (with_reducible refine Box.drewN ?_ _))); done)); have P2c := P2.cell; have P2f := P2.thawed; have P2z := P2.lt)); (try (refine (fun (P3 : Box w7 (w6.heap.size + 1) [.int .i64 0, .int .i64 0, .slice none 0 0] 31) => ?_) ?_; rotate_left 1; (with_reducible refine Box.keep ?_ hb7); (focus ((repeat (first | (with_reducible refine (Box.new' _ (w6.heap.size + 1) _ _ ?_); (simp; done)) | (with_reducible refine Box.alloc ?_ _) | (with_reducible refine Box.drew ?_) | (with_reducible refine Box.drewN ?_ _))); done)); have P3c := P3.cell; have P3f := P3.thawed; have P3z := P3.lt)); (try (refine (fun (P4 : Box w7 (w6.heap.size + 1) [.int .i64 0, .int .i64 0, .slice none 0 0, .int .i64 0, .int .i64 0, .slice none 0 0] 51) => ?_) ?_; rotate_left 1; (with_reducible refine Box.keep ?_ hb7); (focus ((repeat (first | (with_reducible refine (Box.new' _ (w6.heap.size + 1) _ _ ?_); (simp; done)) | (with_reducible refine Box.alloc ?_ _) | (with_reducible refine Box.drew ?_) | (with_reducible refine Box.drewN ?_ _))); done)); have P4c := P4.cell; have P4f := P4.thawed; have P4z := P4.lt))))
                  all_goals (
                    go_wp2_with fail
                    go_meet
                    exact ⟨_, rfl, (by repeat (first | fail | (with_reducible exact Below.refl _ _) | (with_reducible refine Below.al ?_ _) | (with_reducible refine Below.drN ?_ _) | (with_reducible refine Below.drew ?_) | (with_reducible refine Below.st ?_ ?_ _; rotate_left 1; (first | (dsimp only; omega) | omega | (simp; omega) | simp)) | (with_reducible refine Below.go ?_ hb7) | exact Below.refl _ _))⟩)
                case rest =>
                  obtain ⟨f, rfl, hby⟩ := hcut
                  have hbe : Below wr.heap.size wr wc := (by repeat (first | fail | (with_reducible exact Below.refl _ _) | (with_reducible exact hbx6) | (with_reducible refine Below.al ?_ _) | (with_reducible refine Below.drN ?_ _) | (with_reducible refine Below.drew ?_) | (with_reducible refine Below.st ?_ ?_ _; rotate_left 1; (first | (dsimp only; omega) | omega | (simp; omega) | simp)) | (with_reducible refine Below.go ?_ hby) | exact Below.refl _ _ | exact hbx6))
                  go_wp2
                  go_roundw
                  case rel => exact ⟨2, by omega, by go_num, (by repeat (first | fail | (with_reducible exact Below.refl _ _) | (with_reducible exact hbr2) | (with_reducible refine Below.al ?_ _) | (with_reducible refine Below.drN ?_ _) | (with_reducible refine Below.drew ?_) | (with_reducible refine Below.st ?_ ?_ _; rotate_left 1; (first | (dsimp only; omega) | omega | (simp; omega) | simp)) | (with_reducible refine Below.go ?_ hbe) | exact Below.refl _ _ | exact hbr2))⟩
                  case measure => simp [intOf]
          · skip
            go_wp2_with fail
            go_cut [12, 13] (fun s12 s13 wx => ∃ p a5 n5 k5 b5 o5, s12 = .pointer (some ⟨p, 0, none⟩) ∧ s13 = .nilIface ∧ Box wx p [.int .i64 R, .int .i64 k, .slice a5 n5 k5] 31 ∧ IntsAt wx a5 n5 k5 b5 o5 xs ∧ Below wr.heap.size wr wx)
            case first =>
              go_region_held3 (fun w' => w'.cell? ⟨w21.heap.size + 1 + 1, 14, none⟩ = some (.int .i64 4) ∧ w'.cell? ⟨w21.heap.size + 1 + 1, 15, none⟩ = some (.int .i64 0) ∧ w'.cell? ⟨w21.heap.size + 1 + 1, 16, none⟩ = some (.int .i64 0) ∧ w'.cell? ⟨w21.heap.size + 1 + 1, 17, none⟩ = some (.slice none 0 0) ∧ w'.cell? ⟨w21.heap.size + 1 + 1, 18, none⟩ = some (.int .i64 1) ∧ w'.cell? ⟨w21.heap.size + 1 + 1, 19, none⟩ = some (.int .i64 k) ∧ w'.cell? ⟨w21.heap.size + 1 + 1, 20, none⟩ = some (.slice (some ⟨bz, 0, none⟩) k k) ∧ w'.cell? ⟨w.heap.size, 0, none⟩ = some (.int .i64 R) ∧ w'.cell? ⟨w.heap.size, 1, none⟩ = some (.int .i64 k) ∧ w'.cell? ⟨w.heap.size, 2, none⟩ = some (.slice a0 n0 k0)) (exact unit10_2 (t := 48) (u := 31) (by repeat (first | fail | (with_reducible exact S3) | (with_reducible refine Box.alloc ?_ _) | (with_reducible refine Box.drewN ?_ _) | (with_reducible refine Box.drew ?_) | (with_reducible refine Box.far ?_ ?_ _; rotate_left 1; (first | (dsimp only; omega) | omega | (simp; omega) | simp)) | (with_reducible refine Box.keep ?_ hb5) | exact S3)) (by repeat (first | fail | (with_reducible exact X0) | (with_reducible refine Box.alloc ?_ _) | (with_reducible refine Box.drewN ?_ _) | (with_reducible refine Box.drew ?_) | (with_reducible refine Box.far ?_ ?_ _; rotate_left 1; (first | (dsimp only; omega) | omega | (simp; omega) | simp)) | (with_reducible refine Box.keep ?_ hb5) | exact X0))) ((go_at_call 36; go_must (refine (layGo_is (l := (noughtL k)) ⟨_, _, _, _, _, _, _, _, _, _, rfl, (noInts _), (show IntsAt _ (some ⟨bz, 0, none⟩) k k bz 0 (zeros k) from (by repeat (first | fail | (with_reducible exact yz) | (with_reducible refine IntsAt.alloc ?_ _) | (with_reducible refine IntsAt.drewN ?_ _) | (with_reducible refine IntsAt.drew ?_) | (with_reducible refine IntsAt.set ?_ ?_ _; rotate_left 1; (intro h0; first | (dsimp only; omega) | omega | (simp; omega) | simp)) | exact yz)))⟩ (MatAt.mk (show IntsAt _ a0 n0 k0 b0 o0 xs from (by repeat (first | fail | (with_reducible exact y0) | (with_reducible refine IntsAt.alloc ?_ _) | (with_reducible refine IntsAt.drewN ?_ _) | (with_reducible refine IntsAt.drew ?_) | (with_reducible refine IntsAt.set ?_ ?_ _; rotate_left 1; (intro h0; first | (dsimp only; omega) | omega | (simp; omega) | simp)) | exact y0)))) I2.out.go I2.out.is).mono ?_); go_must (rintro e w5 ⟨v5, rfl, ⟨a5, n5, k5, b5, o5, rfl, hn5, x5⟩, hb5⟩); (try (refine (fun (P1 : Box w5 (wr.heap.size) [.int .i64 0, .int .i64 0, .slice none 0 0] 31) => ?_) ?_; rotate_left 1; (with_reducible refine Box.keep ?_ hb5); (focus ((repeat (first | (with_reducible refine (Box.new' _ (wr.heap.size) _ _ ?_); (simp; done)) | (with_reducible refine Box.alloc ?_ _) | (with_reducible refine Box.drew ?_) | (with_reducible refine Box.drewN ?_ _))); done)); have P1c := P1.cell; have P1f := P1.thawed; have P1z := P1.lt))))
              all_goals (
                go_wp2_with fail
                go_meet
                simp at hn5
                exact ⟨_, a5, n5, k5, b5, o5, rfl, rfl, (by repeat (first | fail | (with_reducible refine (Box.new' _ _ _ _ ?_); (simp; done)) | (with_reducible refine Box.alloc ?_ _) | (with_reducible refine Box.drewN ?_ _) | (with_reducible refine Box.drew ?_) | (with_reducible refine Box.set6z ?_ _ _ _ _ _ _) | (with_reducible refine Box.set3z ?_ _ _ _) | (with_reducible refine Box.far ?_ ?_ _; rotate_left 1; (first | (dsimp only; omega) | omega | (simp; omega) | simp)) | (with_reducible refine Box.keep ?_ hb5))), (by repeat (first | fail | (with_reducible exact x5) | (with_reducible refine IntsAt.alloc ?_ _) | (with_reducible refine IntsAt.drewN ?_ _) | (with_reducible refine IntsAt.drew ?_) | (with_reducible refine IntsAt.set ?_ ?_ _; rotate_left 1; (intro h0; have hq0 := hn5 h0; first | (dsimp only; omega) | omega | (simp; omega) | simp)) | exact x5)), (by repeat (first | fail | (with_reducible exact Below.refl _ _) | (with_reducible refine Below.al ?_ _) | (with_reducible refine Below.drN ?_ _) | (with_reducible refine Below.drew ?_) | (with_reducible refine Below.st ?_ ?_ _; rotate_left 1; (first | (dsimp only; omega) | omega | (simp; omega) | simp)) | (with_reducible refine Below.go ?_ hb5) | exact Below.refl _ _))⟩)
            case rest =>
              obtain ⟨p, a5, n5, k5, b5, o5, rfl, rfl, P12, x5, hbx⟩ := hcut
              have hkwc : Below wr.heap.size wr wc := (by repeat (first | fail | (with_reducible exact Below.refl _ _) | (with_reducible refine Below.al ?_ _) | (with_reducible refine Below.drN ?_ _) | (with_reducible refine Below.drew ?_) | (with_reducible refine Below.st ?_ ?_ _; rotate_left 1; (first | (dsimp only; omega) | omega | (simp; omega) | simp)) | (with_reducible refine Below.go ?_ hbx) | exact Below.refl _ _))
              replace X0 := X0.keep hkwc
              replace X0c := X0.cell
              replace X0f := X0.thawed
              replace X0z := X0.lt
              replace X0k := lt_add X0z
              replace G0 := G0.keep hkwc
              replace G0c := G0.cell
              replace G0f := G0.thawed
              replace G0z := G0.lt
              replace G0k := lt_add G0z
              replace S3 := S3.keep hkwc
              replace S3c := S3.cell
              replace S3f := S3.thawed
              replace S3z := S3.lt
              replace S3k := lt_add S3z
              replace y0 := y0.keep hkwc
              replace y1 := y1.keep hkwc
              replace yu := yu.keep hkwc
              replace yz := yz.keep hkwc
              replace yq := yq.keep hkwc
              have P12 := P12
              have P12c := P12.cell
              have P12f := P12.thawed
              have P12z := P12.lt
              have P12k := lt_add P12z
              go_wp2_with fail
              refine (matrices_same ⟨R, k, xs⟩ _ _ _ (MatAt.mk x5) (MatAt.mk y0)).mono ?_
              rintro e w6 ⟨rfl, hb6⟩
              have hkw6 : Below wc.heap.size wc w6 := (by repeat (first | fail | (with_reducible exact Below.refl _ _) | (with_reducible refine Below.al ?_ _) | (with_reducible refine Below.drN ?_ _) | (with_reducible refine Below.drew ?_) | (with_reducible refine Below.st ?_ ?_ _; rotate_left 1; (first | (dsimp only; omega) | omega | (simp; omega) | simp)) | (with_reducible refine Below.go ?_ hb6) | exact Below.refl _ _))
              replace X0 := X0.keep hkw6
              replace X0c := X0.cell
              replace X0f := X0.thawed
              replace X0z := X0.lt
              replace X0k := lt_add X0z
              replace G0 := G0.keep hkw6
              replace G0c := G0.cell
              replace G0f := G0.thawed
              replace G0z := G0.lt
              replace G0k := lt_add G0z
              replace S3 := S3.keep hkw6
              replace S3c := S3.cell
              replace S3f := S3.thawed
              replace S3z := S3.lt
              replace S3k := lt_add S3z
              replace y0 := y0.keep hkw6
              replace y1 := y1.keep hkw6
              replace yu := yu.keep hkw6
              replace yz := yz.keep hkw6
              replace yq := yq.keep hkw6
              have hbx6 : Below wr.heap.size wr w6 := (by repeat (first | fail | (with_reducible exact Below.refl _ _) | (with_reducible exact hbx) | (with_reducible refine Below.al ?_ _) | (with_reducible refine Below.drN ?_ _) | (with_reducible refine Below.drew ?_) | (with_reducible refine Below.st ?_ ?_ _; rotate_left 1; (first | (dsimp only; omega) | omega | (simp; omega) | simp)) | (with_reducible refine Below.go ?_ hb6) | exact Below.refl _ _ | exact hbx))
              clear P12 P12c P12f P12z P12k x5
              by_cases hb : (noughtL k).backFault ⟨R, k, xs⟩ g = 0
              · have HB := Lib.hid hb
                clear hb
                go_wp2_with fail
                go_cut [13, 15] (fun s13 s15 wx => ∃ p a7 n7 k7 b7 o7, s15 = .pointer (some ⟨p, 0, none⟩) ∧ s13 = .nilIface ∧ Box wx p [.int .i64 g.rows, .int .i64 g.cols, .slice a7 n7 k7] 31 ∧ IntsAt wx a7 n7 k7 b7 o7 g.cells ∧ Below w6.heap.size w6 wx)
                case first =>
                  go_region_held3 (fun w' => w'.cell? ⟨w21.heap.size + 1 + 1, 14, none⟩ = some (.int .i64 4) ∧ w'.cell? ⟨w21.heap.size + 1 + 1, 15, none⟩ = some (.int .i64 0) ∧ w'.cell? ⟨w21.heap.size + 1 + 1, 16, none⟩ = some (.int .i64 0) ∧ w'.cell? ⟨w21.heap.size + 1 + 1, 17, none⟩ = some (.slice none 0 0) ∧ w'.cell? ⟨w21.heap.size + 1 + 1, 18, none⟩ = some (.int .i64 1) ∧ w'.cell? ⟨w21.heap.size + 1 + 1, 19, none⟩ = some (.int .i64 k) ∧ w'.cell? ⟨w21.heap.size + 1 + 1, 20, none⟩ = some (.slice (some ⟨bz, 0, none⟩) k k) ∧ w'.cell? ⟨w.heap.size, 0, none⟩ = some (.int .i64 R) ∧ w'.cell? ⟨w.heap.size, 1, none⟩ = some (.int .i64 k) ∧ w'.cell? ⟨w.heap.size, 2, none⟩ = some (.slice a0 n0 k0) ∧ w'.cell? ⟨w.heap.size + 1, 0, none⟩ = some (.int .i64 g.rows) ∧ w'.cell? ⟨w.heap.size + 1, 1, none⟩ = some (.int .i64 g.cols) ∧ w'.cell? ⟨w.heap.size + 1, 2, none⟩ = some (.slice a1 n1 k1)) (exact unit13_2 (t := 48) (u := 31) (s := 31) (by repeat (first | fail | (with_reducible exact S3) | (with_reducible refine Box.alloc ?_ _) | (with_reducible refine Box.drewN ?_ _) | (with_reducible refine Box.drew ?_) | (with_reducible refine Box.far ?_ ?_ _; rotate_left 1; (first | (dsimp only; omega) | omega | (simp; omega) | simp)) | (with_reducible refine Box.keep ?_ hb7) | exact S3)) (by repeat (first | fail | (with_reducible exact X0) | (with_reducible refine Box.alloc ?_ _) | (with_reducible refine Box.drewN ?_ _) | (with_reducible refine Box.drew ?_) | (with_reducible refine Box.far ?_ ?_ _; rotate_left 1; (first | (dsimp only; omega) | omega | (simp; omega) | simp)) | (with_reducible refine Box.keep ?_ hb7) | exact X0)) (by repeat (first | fail | (with_reducible exact G0) | (with_reducible refine Box.alloc ?_ _) | (with_reducible refine Box.drewN ?_ _) | (with_reducible refine Box.drew ?_) | (with_reducible refine Box.far ?_ ?_ _; rotate_left 1; (first | (dsimp only; omega) | omega | (simp; omega) | simp)) | (with_reducible refine Box.keep ?_ hb7) | exact G0))) ((go_at_call 37; go_must (refine (layBack_is (l := (noughtL k)) ⟨_, _, _, _, _, _, _, _, _, _, rfl, (noInts _), (show IntsAt _ (some ⟨bz, 0, none⟩) k k bz 0 (zeros k) from (by repeat (first | fail | (with_reducible exact yz) | (with_reducible refine IntsAt.alloc ?_ _) | (with_reducible refine IntsAt.drewN ?_ _) | (with_reducible refine IntsAt.drew ?_) | (with_reducible refine IntsAt.set ?_ ?_ _; rotate_left 1; (intro h0; first | (dsimp only; omega) | omega | (simp; omega) | simp)) | exact yz)))⟩ (MatAt.mk (show IntsAt _ a0 n0 k0 b0 o0 xs from (by repeat (first | fail | (with_reducible exact y0) | (with_reducible refine IntsAt.alloc ?_ _) | (with_reducible refine IntsAt.drewN ?_ _) | (with_reducible refine IntsAt.drew ?_) | (with_reducible refine IntsAt.set ?_ ?_ _; rotate_left 1; (intro h0; first | (dsimp only; omega) | omega | (simp; omega) | simp)) | exact y0)))) (MatAt.mk (show IntsAt _ a1 n1 k1 b1 o1 g.cells from (by repeat (first | fail | (with_reducible exact y1) | (with_reducible refine IntsAt.alloc ?_ _) | (with_reducible refine IntsAt.drewN ?_ _) | (with_reducible refine IntsAt.drew ?_) | (with_reducible refine IntsAt.set ?_ ?_ _; rotate_left 1; (intro h0; first | (dsimp only; omega) | omega | (simp; omega) | simp)) | exact y1)))) HB.out (I2.out.back HB.out)).mono ?_); go_must (rintro e w7 ⟨v7, d7, rfl, ⟨a7, n7, k7, b7, o7, rfl, hn7, x7⟩, ⟨a8, n8, k8, b8, o8, a9, n9, k9, b9, o9, rfl, _, _, _, _⟩, hb7⟩); (try (refine (fun (P1 : Box w7 (w6.heap.size) [.int .i64 0, .int .i64 0, .slice none 0 0] 31) => ?_) ?_; rotate_left 1; (with_reducible refine Box.keep ?_ hb7); (focus ((repeat (first | (with_reducible refine (Box.new' _ (w6.heap.size) _ _ ?_); (simp; done)) | (with_reducible refine Box.alloc ?_ _) | (with_reducible refine Box.drew ?_) | (with_reducible refine Box.drewN ?_ _))); done)); have P1c := P1.cell; have P1f := P1.thawed; have P1z := P1.lt)); (try (refine (fun (P2 : Box w7 (w6.heap.size) [.int .i64 0, .int .i64 0, .slice none 0 0, .int .i64 0, .int .i64 0, .slice none 0 0] 51) => ?_) ?_; rotate_left 1; (with_reducible refine Box.keep ?_ hb7); (focus ((repeat (first | (with_reducible refine (Box.new' _ (w6.heap.size) _ _ ?_); (simp; done)) | (with_reducible refine Box.alloc ?_ _) | (with_reducible refine Box.drew ?_) | (with_reducible refine Box.drewN ?_ _))); done)); have P2c := P2.cell; have P2f := P2.thawed; have P2z := P2.lt)); (try (refine (fun (P3 : Box w7 (w6.heap.size + 1) [.int .i64 0, .int .i64 0, .slice none 0 0] 31) => ?_) ?_; rotate_left 1; (with_reducible refine Box.keep ?_ hb7); (focus ((repeat (first | (with_reducible refine (Box.new' _ (w6.heap.size + 1) _ _ ?_); (simp; done)) | (with_reducible refine Box.alloc ?_ _) | (with_reducible refine Box.drew ?_) | (with_reducible refine Box.drewN ?_ _))); done)); have P3c := P3.cell; have P3f := P3.thawed; have P3z := P3.lt)); (try (refine (fun (P4 : Box w7 (w6.heap.size + 1) [.int .i64 0, .int .i64 0, .slice none 0 0, .int .i64 0, .int .i64 0, .slice none 0 0] 51) => ?_) ?_; rotate_left 1; (with_reducible refine Box.keep ?_ hb7); (focus ((repeat (first | (with_reducible refine (Box.new' _ (w6.heap.size + 1) _ _ ?_); (simp; done)) | (with_reducible refine Box.alloc ?_ _) | (with_reducible refine Box.drew ?_) | (with_reducible refine Box.drewN ?_ _))); done)); have P4c := P4.cell; have P4f := P4.thawed; have P4z := P4.lt))))
                  all_goals (
                    go_wp2_with fail
                    go_meet
                    simp at hn7
                    exact ⟨_, a7, n7, k7, b7, o7, rfl, rfl, (by repeat (first | fail | (with_reducible refine (Box.new' _ _ _ _ ?_); (simp; done)) | (with_reducible refine Box.alloc ?_ _) | (with_reducible refine Box.drewN ?_ _) | (with_reducible refine Box.drew ?_) | (with_reducible refine Box.set6z ?_ _ _ _ _ _ _) | (with_reducible refine Box.set3z ?_ _ _ _) | (with_reducible refine Box.far ?_ ?_ _; rotate_left 1; (first | (dsimp only; omega) | omega | (simp; omega) | simp)) | (with_reducible refine Box.keep ?_ hb7))), (by repeat (first | fail | (with_reducible exact x7) | (with_reducible refine IntsAt.alloc ?_ _) | (with_reducible refine IntsAt.drewN ?_ _) | (with_reducible refine IntsAt.drew ?_) | (with_reducible refine IntsAt.set ?_ ?_ _; rotate_left 1; (intro h0; have hq0 := hn7 h0; first | (dsimp only; omega) | omega | (simp; omega) | simp)) | exact x7)), (by repeat (first | fail | (with_reducible exact Below.refl _ _) | (with_reducible refine Below.al ?_ _) | (with_reducible refine Below.drN ?_ _) | (with_reducible refine Below.drew ?_) | (with_reducible refine Below.st ?_ ?_ _; rotate_left 1; (first | (dsimp only; omega) | omega | (simp; omega) | simp)) | (with_reducible refine Below.go ?_ hb7) | exact Below.refl _ _))⟩)
                case rest =>
                  obtain ⟨p, a7, n7, k7, b7, o7, rfl, rfl, P15, x7, hby⟩ := hcut
                  have hkwc : Below w6.heap.size w6 wc := (by repeat (first | fail | (with_reducible exact Below.refl _ _) | (with_reducible refine Below.al ?_ _) | (with_reducible refine Below.drN ?_ _) | (with_reducible refine Below.drew ?_) | (with_reducible refine Below.st ?_ ?_ _; rotate_left 1; (first | (dsimp only; omega) | omega | (simp; omega) | simp)) | (with_reducible refine Below.go ?_ hby) | exact Below.refl _ _))
                  replace X0 := X0.keep hkwc
                  replace X0c := X0.cell
                  replace X0f := X0.thawed
                  replace X0z := X0.lt
                  replace X0k := lt_add X0z
                  replace G0 := G0.keep hkwc
                  replace G0c := G0.cell
                  replace G0f := G0.thawed
                  replace G0z := G0.lt
                  replace G0k := lt_add G0z
                  replace S3 := S3.keep hkwc
                  replace S3c := S3.cell
                  replace S3f := S3.thawed
                  replace S3z := S3.lt
                  replace S3k := lt_add S3z
                  replace y0 := y0.keep hkwc
                  replace y1 := y1.keep hkwc
                  replace yu := yu.keep hkwc
                  replace yz := yz.keep hkwc
                  replace yq := yq.keep hkwc
                  have P15 := P15
                  have P15c := P15.cell
                  have P15f := P15.thawed
                  have P15z := P15.lt
                  have P15k := lt_add P15z
                  go_wp2_with fail
                  refine (matrices_same g _ _ _ (MatAt.mk x7) (MatAt.mk y1)).mono ?_
                  rintro e w8 ⟨rfl, hb8⟩
                  have hbe : Below wr.heap.size wr w8 := (by repeat (first | fail | (with_reducible exact Below.refl _ _) | (with_reducible exact hbx6) | (with_reducible refine Below.al ?_ _) | (with_reducible refine Below.drN ?_ _) | (with_reducible refine Below.drew ?_) | (with_reducible refine Below.st ?_ ?_ _; rotate_left 1; (first | (dsimp only; omega) | omega | (simp; omega) | simp)) | (with_reducible refine Below.go ?_ hb8) | (with_reducible refine Below.go ?_ hby) | exact Below.refl _ _ | exact hbx6))
                  go_wp2
                  go_roundw
                  case rel => exact ⟨3, by omega, by go_num, (by repeat (first | fail | (with_reducible exact Below.refl _ _) | (with_reducible exact hbr2) | (with_reducible refine Below.al ?_ _) | (with_reducible refine Below.drN ?_ _) | (with_reducible refine Below.drew ?_) | (with_reducible refine Below.st ?_ ?_ _; rotate_left 1; (first | (dsimp only; omega) | omega | (simp; omega) | simp)) | (with_reducible refine Below.go ?_ hbe) | exact Below.refl _ _ | exact hbr2))⟩
                  case measure => simp [intOf]
              · have HB := Lib.hid hb
                clear hb
                go_wp2_with fail
                go_cut [13] (fun s13 wx => ∃ f : Int, s13 = .iface 26 (.int .i64 f) ∧ Below w6.heap.size w6 wx)
                case first =>
                  go_region_held3 (fun w' => w'.cell? ⟨w21.heap.size + 1 + 1, 14, none⟩ = some (.int .i64 4) ∧ w'.cell? ⟨w21.heap.size + 1 + 1, 15, none⟩ = some (.int .i64 0) ∧ w'.cell? ⟨w21.heap.size + 1 + 1, 16, none⟩ = some (.int .i64 0) ∧ w'.cell? ⟨w21.heap.size + 1 + 1, 17, none⟩ = some (.slice none 0 0) ∧ w'.cell? ⟨w21.heap.size + 1 + 1, 18, none⟩ = some (.int .i64 1) ∧ w'.cell? ⟨w21.heap.size + 1 + 1, 19, none⟩ = some (.int .i64 k) ∧ w'.cell? ⟨w21.heap.size + 1 + 1, 20, none⟩ = some (.slice (some ⟨bz, 0, none⟩) k k) ∧ w'.cell? ⟨w.heap.size, 0, none⟩ = some (.int .i64 R) ∧ w'.cell? ⟨w.heap.size, 1, none⟩ = some (.int .i64 k) ∧ w'.cell? ⟨w.heap.size, 2, none⟩ = some (.slice a0 n0 k0) ∧ w'.cell? ⟨w.heap.size + 1, 0, none⟩ = some (.int .i64 g.rows) ∧ w'.cell? ⟨w.heap.size + 1, 1, none⟩ = some (.int .i64 g.cols) ∧ w'.cell? ⟨w.heap.size + 1, 2, none⟩ = some (.slice a1 n1 k1)) (exact unit13_2 (t := 48) (u := 31) (s := 31) (by repeat (first | fail | (with_reducible exact S3) | (with_reducible refine Box.alloc ?_ _) | (with_reducible refine Box.drewN ?_ _) | (with_reducible refine Box.drew ?_) | (with_reducible refine Box.far ?_ ?_ _; rotate_left 1; (first | (dsimp only; omega) | omega | (simp; omega) | simp)) | (with_reducible refine Box.keep ?_ hb7) | exact S3)) (by repeat (first | fail | (with_reducible exact X0) | (with_reducible refine Box.alloc ?_ _) | (with_reducible refine Box.drewN ?_ _) | (with_reducible refine Box.drew ?_) | (with_reducible refine Box.far ?_ ?_ _; rotate_left 1; (first | (dsimp only; omega) | omega | (simp; omega) | simp)) | (with_reducible refine Box.keep ?_ hb7) | exact X0)) (by repeat (first | fail | (with_reducible exact G0) | (with_reducible refine Box.alloc ?_ _) | (with_reducible refine Box.drewN ?_ _) | (with_reducible refine Box.drew ?_) | (with_reducible refine Box.far ?_ ?_ _; rotate_left 1; (first | (dsimp only; omega) | omega | (simp; omega) | simp)) | (with_reducible refine Box.keep ?_ hb7) | exact G0))) ((go_at_call 37; go_must (refine (layBack_not (l := (noughtL k)) ⟨_, _, _, _, _, _, _, _, _, _, rfl, (noInts _), (show IntsAt _ (some ⟨bz, 0, none⟩) k k bz 0 (zeros k) from (by repeat (first | fail | (with_reducible exact yz) | (with_reducible refine IntsAt.alloc ?_ _) | (with_reducible refine IntsAt.drewN ?_ _) | (with_reducible refine IntsAt.drew ?_) | (with_reducible refine IntsAt.set ?_ ?_ _; rotate_left 1; (intro h0; first | (dsimp only; omega) | omega | (simp; omega) | simp)) | exact yz)))⟩ (MatAt.mk (show IntsAt _ a0 n0 k0 b0 o0 xs from (by repeat (first | fail | (with_reducible exact y0) | (with_reducible refine IntsAt.alloc ?_ _) | (with_reducible refine IntsAt.drewN ?_ _) | (with_reducible refine IntsAt.drew ?_) | (with_reducible refine IntsAt.set ?_ ?_ _; rotate_left 1; (intro h0; first | (dsimp only; omega) | omega | (simp; omega) | simp)) | exact y0)))) (MatAt.mk (show IntsAt _ a1 n1 k1 b1 o1 g.cells from (by repeat (first | fail | (with_reducible exact y1) | (with_reducible refine IntsAt.alloc ?_ _) | (with_reducible refine IntsAt.drewN ?_ _) | (with_reducible refine IntsAt.drew ?_) | (with_reducible refine IntsAt.set ?_ ?_ _; rotate_left 1; (intro h0; first | (dsimp only; omega) | omega | (simp; omega) | simp)) | exact y1)))) HB.out).mono ?_); go_must (rintro e w7 ⟨v7, d7, rfl, ⟨a7, n7, k7, b7, o7, rfl, hn7, x7⟩, ⟨a8, n8, k8, b8, o8, a9, n9, k9, b9, o9, rfl, _, _, _, _⟩, hb7⟩); (try (refine (fun (P1 : Box w7 (w6.heap.size) [.int .i64 0, .int .i64 0, .slice none 0 0] 31) => ?_) ?_; rotate_left 1; (with_reducible refine Box.keep ?_ hb7); (focus ((repeat (first | (with_reducible refine (Box.new' _ (w6.heap.size) _ _ ?_); (simp; done)) | (with_reducible refine Box.alloc ?_ _) | (with_reducible refine Box.drew ?_) | (with_reducible refine Box.drewN ?_ _))); done)); have P1c := P1.cell; have P1f := P1.thawed; have P1z := P1.lt)); (try (refine (fun (P2 : Box w7 (w6.heap.size) [.int .i64 0, .int .i64 0, .slice none 0 0, .int .i64 0, .int .i64 0, .slice none 0 0] 51) => ?_) ?_; rotate_left 1; (with_reducible refine Box.keep ?_ hb7); (focus ((repeat (first | (with_reducible refine (Box.new' _ (w6.heap.size) _ _ ?_); (simp; done)) | (with_reducible refine Box.alloc ?_ _) | (with_reducible refine Box.drew ?_) | (with_reducible refine Box.drewN ?_ _))); done)); have P2c := P2.cell; have P2f := P2.thawed; have P2z := P2.lt)); (try (refine (fun (P3 : Box w7 (w6.heap.size + 1) [.int .i64 0, .int .i64 0, .slice none 0 0] 31) => ?_) ?_; rotate_left 1; (with_reducible refine Box.keep ?_ hb7); (focus ((repeat (first | (with_reducible refine (Box.new' _ (w6.heap.size + 1) _ _ ?_); (simp; done)) | (with_reducible refine Box.alloc ?_ _) | (with_reducible refine Box.drew ?_) | (with_reducible refine Box.drewN ?_ _))); done)); have P3c := P3.cell; have P3f := P3.thawed; have P3z := P3.lt)); (try (refine (fun (P4 : Box w7 (w6.heap.size + 1) [.int .i64 0, .int .i64 0, .slice none 0 0, .int .i64 0, .int .i64 0, .slice none 0 0] 51) => ?_) ?_; rotate_left 1; (with_reducible refine Box.keep ?_ hb7); (focus ((repeat (first | (with_reducible refine (Box.new' _ (w6.heap.size + 1) _ _ ?_); (simp; done)) | (with_reducible refine Box.alloc ?_ _) | (with_reducible refine Box.drew ?_) | (with_reducible refine Box.drewN ?_ _))); done)); have P4c := P4.cell; have P4f := P4.thawed; have P4z := P4.lt))))
                  all_goals (
                    go_wp2_with fail
                    go_meet
                    exact ⟨_, rfl, (by repeat (first | fail | (with_reducible exact Below.refl _ _) | (with_reducible refine Below.al ?_ _) | (with_reducible refine Below.drN ?_ _) | (with_reducible refine Below.drew ?_) | (with_reducible refine Below.st ?_ ?_ _; rotate_left 1; (first | (dsimp only; omega) | omega | (simp; omega) | simp)) | (with_reducible refine Below.go ?_ hb7) | exact Below.refl _ _))⟩)
                case rest =>
                  obtain ⟨f, rfl, hby⟩ := hcut
                  have hbe : Below wr.heap.size wr wc := (by repeat (first | fail | (with_reducible exact Below.refl _ _) | (with_reducible exact hbx6) | (with_reducible refine Below.al ?_ _) | (with_reducible refine Below.drN ?_ _) | (with_reducible refine Below.drew ?_) | (with_reducible refine Below.st ?_ ?_ _; rotate_left 1; (first | (dsimp only; omega) | omega | (simp; omega) | simp)) | (with_reducible refine Below.go ?_ hby) | exact Below.refl _ _ | exact hbx6))
                  go_wp2
                  go_roundw
                  case rel => exact ⟨3, by omega, by go_num, (by repeat (first | fail | (with_reducible exact Below.refl _ _) | (with_reducible exact hbr2) | (with_reducible refine Below.al ?_ _) | (with_reducible refine Below.drN ?_ _) | (with_reducible refine Below.drew ?_) | (with_reducible refine Below.st ?_ ?_ _; rotate_left 1; (first | (dsimp only; omega) | omega | (simp; omega) | simp)) | (with_reducible refine Below.go ?_ hbe) | exact Below.refl _ _ | exact hbr2))⟩
                  case measure => simp [intOf]
        · obtain rfl : j = 3 := by omega
          have hbe : Below w.heap.size w wr := (by repeat (first | fail | (with_reducible exact Below.refl _ _) | (with_reducible exact hbq) | (with_reducible refine Below.al ?_ _) | (with_reducible refine Below.drN ?_ _) | (with_reducible refine Below.drew ?_) | (with_reducible refine Below.st ?_ ?_ _; rotate_left 1; (first | (dsimp only; omega) | omega | (simp; omega) | simp)) | (with_reducible refine Below.go ?_ hbr2) | exact Below.refl _ _ | exact hbq))
          go_wp2
          go_ret
          exact ⟨rfl, hbe⟩
end
theorem walk (x : Mat) (vx : Value) (g : Mat) (vg : Value) (w : World) (hx : MatAt w vx x) (hg : MatAt w vg g) : Calls Try.prog 10 #[vx, vg] w fun e w' => e = .returned (.bool true) ∧ Below w.heap.size w w' := by
  obtain ⟨a0, n0, k0, b0, o0, rfl, x0⟩ := hx
  obtain ⟨a1, n1, k1, b1, o1, rfl, x1⟩ := hg
  by_cases hc : x.cols < 1 ∨ 12 < x.cols
  · exact walk0 x g _ _ _ _ _ _ _ _ _ _ w x0 x1 hc
  · by_cases hf : x.fault = 0
    · obtain ⟨R, K, xs, rfl, hR, hK, hlen, hin⟩ := mat_form hf
      dsimp only at hc
      exact walk2 R K xs g _ _ _ _ _ _ _ _ _ _ w x0 x1 hf (by omega) hK
    · exact walk1 x g _ _ _ _ _ _ _ _ _ _ w x0 x1 (by omega) (by omega) hf

theorem own : ownKnob Try.prog.godebug = none := by kernel_rfl
theorem laidOut : laidOutB Try.prog = true := by kernel_rfl
set_option maxRecDepth 100000 in
theorem lifted (os : Os) (started : os.Started) (H : Type) (enc : TypeId × Value → H) :
    ReturnsInHanded {} Try.checked os 10 .any (Rows.layerUnitSpec.pre6 enc Try.prog Try.f10 Rows.layerUnitRow.domain false) (Rows.layerUnitSpec.post enc Try.prog Try.f10 false true false false) := by
  refine returnsInHanded_of_change (C := Try.checked) own started (by kernel_rfl) Try.func10
    (ChangeSpec.witness6 (enc := enc) (C := Try.checked) false ⟨#[], #[.agg #[.int .i64 0, .int .i64 0, .slice none 0 0], .agg #[.int .i64 0, .int .i64 0, .slice none 0 0]], []⟩ 8 (by kernel_rfl) (by kernel_rfl) (by kernel_rfl) (by kernel_rfl)) ?_
  intro W base args ds gs before hval0 hW hcnd hsz
  have hval : ∀ (j : Nat) t v, Try.f10.params[j]? = some t → args[j]? = some v → Value.okWide Try.prog W .any base t v := hval0
  have hW' := hW
  obtain ⟨p, q, hA0, hV, rfl, hfz, hnd⟩ := hW
  have hA : DataW.TrodAll enc Try.prog W 0 (fun _ => true) true Try.f10.params.toList args.toList ds p := hA0
  rw [Try.params10] at hA hval
  obtain ⟨v0, vs0, d0, ds0, p0, q0, hargs, rfl, rfl, h0, r0⟩ := trodAll_cons hA
  obtain ⟨v1, vs1, d1, ds1, p1, q1, rfl, rfl, rfl, h1, r1⟩ := trodAll_cons r0
  obtain ⟨rfl, rfl, rfl⟩ := trodAll_nil r1
  obtain rfl : args = #[v0, v1] := by cases args; simp_all
  obtain ⟨rfl, rfl⟩ := trodVars_none hV
  have k0 := h0
  have lt0 : ∀ x ∈ p0, x.block < W.heap.size := by obtain ⟨m, hm⟩ := k0; exact DataW.trod_lt m _ _ _ hm
  have k1 := h1
  have lt1 : ∀ x ∈ p1, x.block < W.heap.size := by obtain ⟨m, hm⟩ := k1; exact DataW.trod_lt m _ _ _ hm
  obtain ⟨a0, w0⟩ := open_mat (hval 0 31 v0 rfl rfl) h0
  obtain ⟨a1, w1⟩ := open_mat (hval 1 31 v1 rfl rfl) h1
  clear hA0 hval0
  refine (walk a0 v0 a1 v1 W w0 w1).mono fun e W' ⟨he, bel⟩ => ?_
  subst he
  exact ⟨_, rfl, _, _, _, [], _, [], hW', trodAll_mk1 (shut_bool Try.underlying4 _), (trodAll_cons_mk (Below.trod laidOut (by kernel_rfl) (of_decide_eq_true (by kernel_rfl)) k0 bel lt0) (trodAll_cons_mk (Below.trod laidOut (by kernel_rfl) (of_decide_eq_true (by kernel_rfl)) k1 bel lt1) trodAll_mk0)), rfl, bel.frame _, fun h => by cases h⟩

theorem proved : Rows.LayerUnitSaid :=
  OpenClaim.holds_of_wide 10 Try.f10 rfl rfl rfl rfl rfl rfl rfl ⟨rfl, rfl, rfl, rfl, rfl⟩ rfl rfl rfl rfl rfl (by kernel_rfl) Try.func10 (by kernel_rfl)
    (of_decide_eq_true (by kernel_rfl)) (by unfold Func.isWrapper; first | (rw [if_pos (by decide +kernel)]; kernel_rfl) | (rw [if_neg (by decide +kernel)]; exact ⟨rfl, rfl⟩))
    (fun os started H enc _ => lifted os started H enc)
#print axioms proved

end Go.Proofs.Ytlfeijffjpjnnaa.lawLayerUnit
