/- Seven cells, one behind the other. -/
import Derived.Test.YtgknjikjjklaiaaDoorPart
set_option linter.unusedVariables false
set_option linter.unusedSimpArgs false
namespace Gal
open Go Go.RowKit
/-- seven cells, one behind the other -/
structure Cells7 (w : World) (b i : Nat) (v0 v1 v2 v3 v4 v5 v6 : Value) : Prop where
  c0 : w.cell? ⟨b, i, none⟩ = some v0
  c1 : w.cell? ⟨b, i + 1, none⟩ = some v1
  c2 : w.cell? ⟨b, i + 2, none⟩ = some v2
  c3 : w.cell? ⟨b, i + 3, none⟩ = some v3
  c4 : w.cell? ⟨b, i + 4, none⟩ = some v4
  c5 : w.cell? ⟨b, i + 5, none⟩ = some v5
  c6 : w.cell? ⟨b, i + 6, none⟩ = some v6
section
variable {w w' : World} {b i : Nat} {v0 v1 v2 v3 v4 v5 v6 : Value}
theorem Cells7.keep (h : Cells7 w b i v0 v1 v2 v3 v4 v5 v6) (hb : Below w.heap.size w w') : Cells7 w' b i v0 v1 v2 v3 v4 v5 v6 := ⟨cell_keep' hb h.c0, cell_keep' hb h.c1, cell_keep' hb h.c2, cell_keep' hb h.c3, cell_keep' hb h.c4, cell_keep' hb h.c5, cell_keep' hb h.c6⟩
theorem Cells7.alloc (h : Cells7 w b i v0 v1 v2 v3 v4 v5 v6) (o : Obj) : Cells7 (w.alloc o) b i v0 v1 v2 v3 v4 v5 v6 := h.keep ((Below.refl w.heap.size w).alloc (Nat.le_refl _) o)
theorem Cells7.drewN (h : Cells7 w b i v0 v1 v2 v3 v4 v5 v6) (n : Nat) : Cells7 (w.drewN n) b i v0 v1 v2 v3 v4 v5 v6 := ⟨h.c0, h.c1, h.c2, h.c3, h.c4, h.c5, h.c6⟩
theorem Cells7.drew (h : Cells7 w b i v0 v1 v2 v3 v4 v5 v6) : Cells7 w.drew b i v0 v1 v2 v3 v4 v5 v6 := ⟨h.c0, h.c1, h.c2, h.c3, h.c4, h.c5, h.c6⟩
theorem Cells7.far (h : Cells7 w b i v0 v1 v2 v3 v4 v5 v6) {a : Addr} (hne : b ≠ a.block) (v : Value) : Cells7 (w.setCell a v) b i v0 v1 v2 v3 v4 v5 v6 :=
  ⟨(World.cell?_of_block (a := ⟨b, i, none⟩) (Below.heap_setCell w a v b hne)).trans h.c0, (World.cell?_of_block (a := ⟨b, i + 1, none⟩) (Below.heap_setCell w a v b hne)).trans h.c1, (World.cell?_of_block (a := ⟨b, i + 2, none⟩) (Below.heap_setCell w a v b hne)).trans h.c2, (World.cell?_of_block (a := ⟨b, i + 3, none⟩) (Below.heap_setCell w a v b hne)).trans h.c3, (World.cell?_of_block (a := ⟨b, i + 4, none⟩) (Below.heap_setCell w a v b hne)).trans h.c4, (World.cell?_of_block (a := ⟨b, i + 5, none⟩) (Below.heap_setCell w a v b hne)).trans h.c5, (World.cell?_of_block (a := ⟨b, i + 6, none⟩) (Below.heap_setCell w a v b hne)).trans h.c6⟩
end
end Gal
