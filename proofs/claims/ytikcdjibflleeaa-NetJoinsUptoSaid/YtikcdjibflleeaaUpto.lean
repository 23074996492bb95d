/- How the laws' arguments are opened where their bulk is bounded. -/
import Derived.Test.YtikcdjibflleeaaRows
import Derived.Test.YtikcdjibflleeaaOpens
set_option linter.unusedVariables false
set_option linter.unusedSimpArgs false
namespace Go.Proofs.Ytikcdjibflleeaa
open Go.RowKit Gal Go.ChangeShapes Go.WideShapes
set_option maxRecDepth 100000
theorem bulk_pos {H : Type} (d : DataW H) : 1 ≤ Rows.uptoBulk d := by
  cases d with
  | lit l => cases l <;> simp [Rows.uptoBulk]
  | _ => simp [Rows.uptoBulk]
theorem bulk_len {H : Type} : ∀ l : List (DataW H), l.length ≤ Rows.uptoBulkAll l
  | [] => by simp [Rows.uptoBulkAll]
  | d :: r => by
    have h1 := bulk_pos d
    have h2 := bulk_len r
    simp only [Rows.uptoBulkAll, List.length_cons]
    omega
/-- a list's length is no more than its bulk -/
theorem len_bulk {H : Type} {n : Nat} {d : DataW H} (h : n = 0 ∨ ∃ (D : Nat → DataW H) (sp : List (DataW H)), d = .slice ((List.range n).map D) sp) : n ≤ Rows.uptoBulk d := by
  rcases h with rfl | ⟨D, sp, rfl⟩
  · exact Nat.zero_le _
  · have h1 := bulk_len ((List.range n).map D)
    simp only [List.length_map, List.length_range] at h1
    simp only [Rows.uptoBulk]
    omega
/-- a value reads as a list of matrices -/
def LMatsAt (w : World) (v : Value) (ms : List Mat) : Prop := ∃ a n k b o, v = .slice a n k ∧ RowAt Form.mat w anyB a n k b o ms
theorem open_lMatrix_upto {H : Type} {enc : TypeId × Value → H} {w : World} {base b0 : Nat} {r : Reach} {spare : Nat → Bool} {held : Bool} {v : Value} {d : DataW H} {p : List MemPlace}
    (hv : Value.okWide Try.prog w r b0 53 v) (h : DataW.Trod enc Try.prog w base spare held 53 v d p) : ∃ ms : List Mat, LMatsAt w v ms ∧ ms.length ≤ Rows.uptoBulk d := by
  obtain ⟨a, n, cap, b, off, xs, e, hr, hd⟩ := opens_mat.top_slice Try.underlying53 (by kernel_rfl) (by decide) hv h
  exact ⟨xs, ⟨a, n, cap, b, off, e, hr⟩, by rw [hr.len]; exact len_bulk hd⟩
end Go.Proofs.Ytikcdjibflleeaa
