/- Contracts of package net: clone, Go. -/
import Derived.Test.YtikcdjibflleeaaDoorNet1
import Derived.Test.YtikcdjibflleeaaDoorGrads
import Derived.Test.YtikcdjibflleeaaDoorJLay
import Derived.Test.YtikcdjibflleeaaDoorMat6
import Derived.Test.YtikcdjibflleeaaDoorLayShort
import Derived.Test.YtikcdjibflleeaaDoorJWorld
import Derived.Deep.DeepCutAuto
import Derived.Deep.RegionHeld3
import Derived.IntWalk
set_option linter.unusedVariables false
set_option linter.unusedSimpArgs false
set_option linter.unusedSectionVars false
namespace Gal
open Go Go.RowKit
theorem cell_al {w : World} {a : Addr} {v : Value} (h : w.cell? a = some v) (o : Obj) : (w.alloc o).cell? a = some v := cell_keep ((Below.refl w.heap.size w).alloc (Nat.le_refl _) o) h
/-- three cells, one behind the other -/
structure Cells3 (w : World) (b i : Nat) (x y z : Value) : Prop where
  c0 : w.cell? ⟨b, i, none⟩ = some x
  c1 : w.cell? ⟨b, i + 1, none⟩ = some y
  c2 : w.cell? ⟨b, i + 2, none⟩ = some z
section
variable {w w' : World} {b i : Nat} {x y z : Value}
theorem Cells3.keep (h : Cells3 w b i x y z) (hb : Below w.heap.size w w') : Cells3 w' b i x y z := ⟨cell_keep hb h.c0, cell_keep hb h.c1, cell_keep hb h.c2⟩
theorem Cells3.alloc (h : Cells3 w b i x y z) (o : Obj) : Cells3 (w.alloc o) b i x y z := h.keep ((Below.refl w.heap.size w).alloc (Nat.le_refl _) o)
theorem Cells3.drewN (h : Cells3 w b i x y z) (n : Nat) : Cells3 (w.drewN n) b i x y z := ⟨h.c0, h.c1, h.c2⟩
theorem Cells3.drew (h : Cells3 w b i x y z) : Cells3 w.drew b i x y z := ⟨h.c0, h.c1, h.c2⟩
theorem Cells3.far (h : Cells3 w b i x y z) {a : Addr} (hne : b ≠ a.block) (v : Value) : Cells3 (w.setCell a v) b i x y z :=
  ⟨(World.cell?_of_block (a := ⟨b, i, none⟩) (Below.heap_setCell w a v b hne)).trans h.c0, (World.cell?_of_block (a := ⟨b, i + 1, none⟩) (Below.heap_setCell w a v b hne)).trans h.c1, (World.cell?_of_block (a := ⟨b, i + 2, none⟩) (Below.heap_setCell w a v b hne)).trans h.c2⟩
end
theorem cells73 {w : World} {b c i : Nat} {t : TypeId} {v0 v1 v2 v3 v4 v5 v6 x y z : Value} (h : Box w b [v0, v1, v2, v3, v4, v5, v6] t) (m : Cells3 w c i x y z) :
    w.cell? ⟨b, 0, none⟩ = some v0 ∧ w.cell? ⟨b, 1, none⟩ = some v1 ∧ w.cell? ⟨b, 2, none⟩ = some v2 ∧ w.cell? ⟨b, 3, none⟩ = some v3 ∧ w.cell? ⟨b, 4, none⟩ = some v4 ∧ w.cell? ⟨b, 5, none⟩ = some v5 ∧ w.cell? ⟨b, 6, none⟩ = some v6 ∧
    w.cell? ⟨c, i, none⟩ = some x ∧ w.cell? ⟨c, i + 1, none⟩ = some y ∧ w.cell? ⟨c, i + 2, none⟩ = some z :=
  ⟨h.cell 0, h.cell 1, h.cell 2, h.cell 3, h.cell 4, h.cell 5, h.cell 6, m.c0, m.c1, m.c2⟩
end Gal
namespace Go.Proofs.YtikcdjibflleeaaDoor
open Go.RowKit Gal
theorem info_mat : (Tryd.prog.info? 25).map (fun i => (i.zero, i.size, i.bytes)) = some (some (.agg #[.int .i64 0, .int .i64 0, .slice none 0 0]), 3, 40) := by kernel_rfl
set_option maxRecDepth 100000
set_option maxHeartbeats 4000000
theorem netClone_any (m : Mat) (va : Value) (w : World) (ha : MatAt w va m) (hn : m.cells.length * 8 ≤ 140737488355328) :
    Calls Tryd.prog 39 #[va] w fun e w' => ∃ v, e = .returned v ∧ MatNew w.heap.size w' v m ∧ Below w.heap.size w w' := by
  obtain ⟨a0, n0, k0, b0, o0, rfl, x0⟩ := ha
  have hl := x0.len
  have HN : Hid (n0 * 8 ≤ 140737488355328) := Lib.hid (by omega)
  clear hn hl
  go_enter Tryd.func39, Tryd.ntmps39
  go_wp2_with fail
  refine (clone_any a0 n0 k0 b0 o0 m.cells _ (x0.alloc _ |>.alloc _) HN.out).mono ?_
  rintro e w1 ⟨a1, k1, b1, rfl, hbb, y1, hb1⟩
  have B1 := ((show Box _ w.heap.size [.int .i64 m.rows, .int .i64 m.cols, .slice a0 n0 k0] 25 from (by repeat (first | fail | (with_reducible refine (Box.new' _ w.heap.size _ _ ?_); (simp; done)) | (with_reducible refine Box.alloc ?_ _) | (with_reducible refine Box.drewN ?_ _) | (with_reducible refine Box.drew ?_) | (with_reducible refine Box.far ?_ ?_ _; rotate_left 1; (first | (dsimp only; omega) | omega | (simp; omega) | simp)))))).keep hb1
  have B1c := B1.cell
  have B1f := B1.thawed
  have B1z := B1.lt
  have B1k := lt_add B1z
  have B2 := ((show Box _ (w.heap.size + 1) [.int .i64 0, .int .i64 0, .slice none 0 0] 25 from (by repeat (first | fail | (with_reducible refine (Box.new' _ (w.heap.size + 1) _ _ ?_); (simp; done)) | (with_reducible refine Box.alloc ?_ _) | (with_reducible refine Box.drewN ?_ _) | (with_reducible refine Box.drew ?_) | (with_reducible refine Box.far ?_ ?_ _; rotate_left 1; (first | (dsimp only; omega) | omega | (simp; omega) | simp)))))).keep hb1
  have B2c := B2.cell
  have B2f := B2.thawed
  have B2z := B2.lt
  have B2k := lt_add B2z
  simp at hbb
  have l1 : 0 < n0 → w.heap.size + 1 < b1 := fun h => by have := hbb h; omega
  go_wp2
  refine bodyPost_ret (v := .agg #[.int .i64 m.rows, .int .i64 m.cols, .slice a1 n0 k1]) (by simp [results, Tryd.results39, go_sem, B2c, B1c, B2z, B1z]) rfl ⟨_, rfl, MatNew.mk (b := b1) (off := 0) (fun h => by have := l1 h; omega) (by repeat (first | fail | (with_reducible exact y1) | (with_reducible refine IntsAt.alloc ?_ _) | (with_reducible refine IntsAt.drewN ?_ _) | (with_reducible refine IntsAt.drew ?_) | (with_reducible refine IntsAt.set ?_ ?_ _; rotate_left 1; (intro h0; have hq0 := l1 h0; first | (dsimp only; omega) | omega | (simp; omega) | simp)) | exact y1)), (by repeat (first | fail | (with_reducible exact Below.refl _ _) | (with_reducible refine Below.al ?_ _) | (with_reducible refine Below.drN ?_ _) | (with_reducible refine Below.drew ?_) | (with_reducible refine Below.st ?_ ?_ _; rotate_left 1; (first | (dsimp only; omega) | omega | (simp; omega) | simp)) | (with_reducible refine Below.go ?_ hb1) | exact Below.refl _ _))⟩
end Go.Proofs.YtikcdjibflleeaaDoor
