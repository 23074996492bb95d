/- How the laws' arguments are opened where their bulk is bounded: matrices, nets. -/
import Derived.Test.YtikcdjibflleeaaUpto
import Derived.Test.YtikcdjibflleeaaForms
import Derived.Test.YtikcdjibflleeaaOpen
set_option linter.unusedVariables false
set_option linter.unusedSimpArgs false
namespace Go.Proofs.Ytikcdjibflleeaa
open Go.RowKit Gal Go.ChangeShapes Go.WideShapes Go.ChangeAt Go.Joins
set_option maxRecDepth 100000
theorem open_Matrix_upto {H : Type} {enc : TypeId × Value → H} {w : World} {base b0 : Nat} {r : Reach} {spare : Nat → Bool} {held : Bool} {v : Value} {d : DataW H} {p : List MemPlace}
    (hv : Value.okWide Try.prog w r b0 28 v) (h : DataW.Trod enc Try.prog w base spare held 28 v d p) : ∃ m : Mat, MatAt w v m ∧ m.cells.length ≤ Rows.uptoBulk d := by
  obtain ⟨v0, v1, v2, y0, y1, y2, n, rfl, rfl, _, h0, h1, h2⟩ := open_agg3 Try.underlying28 (by kernel_rfl) cells_mat hv h
  obtain ⟨x0, e0, _, _⟩ := DataW.trod_int Try.underlying3 h0
  obtain ⟨x1, e1, _, _⟩ := DataW.trod_int Try.underlying3 h1
  obtain ⟨a, n2, cap, b, off, xs, rfl, hi⟩ := open_ints_at h2
  simp at e0 e1
  subst e0 e1
  have hl : n2 ≤ Rows.uptoBulk y2.1 := by
    rcases open_ints Try.underlying26 Try.underlying3 cells_int h2 with ⟨hcs, _⟩ | ⟨x, l, c, zs, hcs, _, hl, hm, hz, hx, _, _⟩
    · simp at hcs
      omega
    · simp at hcs
      obtain ⟨_, rfl, _⟩ := hcs
      rw [hx]
      have hlz : n2 ≤ zs.length := by rw [hz]; split <;> omega
      have := bulk_len (H := H) (lits .i64 (zs.take n2))
      have hll : (lits (H := H) .i64 (zs.take n2)).length = n2 := by simp [lits]; omega
      simp only [Rows.uptoBulk]
      omega
  refine ⟨⟨x0, x1, xs⟩, ⟨a, n2, cap, b, off, rfl, hi⟩, ?_⟩
  simp only [Rows.uptoBulk, Rows.uptoBulkAll]
  have := hi.len
  omega
/-- a value reads as a net -/
def LLaysAt (w : World) (v : Value) (ls : List Lay) : Prop := ∃ a n k b o, v = .slice a n k ∧ RowAt Form.lay w anyB a n k b o ls
theorem open_lLayer_upto {H : Type} {enc : TypeId × Value → H} {w : World} {base b0 : Nat} {r : Reach} {spare : Nat → Bool} {held : Bool} {v : Value} {d : DataW H} {p : List MemPlace}
    (hv : Value.okWide Try.prog w r b0 22 v) (h : DataW.Trod enc Try.prog w base spare held 22 v d p) : ∃ ls : List Lay, LLaysAt w v ls ∧ ls.length ≤ Rows.uptoBulk d := by
  obtain ⟨a, n, cap, b, off, xs, e, hr, hd⟩ := opens_lay.top_slice Try.underlying22 (by kernel_rfl) (by decide) hv h
  exact ⟨xs, ⟨a, n, cap, b, off, e, hr⟩, by rw [hr.len]; exact len_bulk hd⟩
end Go.Proofs.Ytikcdjibflleeaa
