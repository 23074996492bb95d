/- Contract of the laws' batches, of two lists that are the same; how a batch is opened. -/
import Derived.Test.YtgknjikjjklaiaaBatch3
import Derived.Test.YtgknjikjjklaiaaGrads
set_option linter.unusedVariables false
set_option linter.unusedSimpArgs false
namespace Go.Proofs.Ytgknjikjjklaiaa
open Go.RowKit Gal Go.ChangeShapes Go.WideShapes
set_option maxRecDepth 100000
theorem opens_bat : Opens Try.prog Form.bat 53 :=
  (Opens.two (f := Form.mat) (g := Form.mat) Try.underlying53 opens_mat opens_mat (by kernel_rfl) (by kernel_rfl) (by kernel_rfl)).as _
theorem open_Batch {H : Type} {enc : TypeId × Value → H} {w : World} {base b0 : Nat} {r : Reach} {spare : Nat → Bool} {held : Bool} {v : Value} {d : DataW H} {p : List MemPlace}
    (hv : Value.okWide Try.prog w r b0 53 v) (h : DataW.Trod enc Try.prog w base spare held 53 v d p) : ∃ b : Bat, BatAt w v b := by
  obtain ⟨b, cs, e, hl⟩ := opens_bat.top_struct Try.underlying53 hv h
  obtain ⟨a1, n1, k1, b1, o1, a2, n2, k2, b2, o2, rfl, _, x1, _, x2⟩ := bat_reads hl
  exact ⟨b, a1, n1, k1, b1, o1, a2, n2, k2, b2, o2, e, x1, x2⟩
theorem bat_cells {w : World} {F : Nat → Prop} {a : Option Addr} {n k b o : Nat} {ds : List Bat} {i : Nat} {d : Bat} (h : RowAt Form.bat w F a n k b o ds) (hd : ds[i]? = some d) :
    ∃ a1 n1 k1 b1 o1 a2 n2 k2 b2 o2, w.cell? ⟨b, o + i * 6, none⟩ = some (.int .i64 d.I.rows) ∧ w.cell? ⟨b, o + i * 6 + 1, none⟩ = some (.int .i64 d.I.cols) ∧ w.cell? ⟨b, o + i * 6 + 2, none⟩ = some (.slice a1 n1 k1) ∧
      w.cell? ⟨b, o + i * 6 + 3, none⟩ = some (.int .i64 d.W.rows) ∧ w.cell? ⟨b, o + i * 6 + 4, none⟩ = some (.int .i64 d.W.cols) ∧ w.cell? ⟨b, o + i * 6 + 5, none⟩ = some (.slice a2 n2 k2) ∧ IntsAt w a1 n1 k1 b1 o1 d.I.cells ∧ IntsAt w a2 n2 k2 b2 o2 d.W.cells := by
  obtain ⟨cs, hr, hc⟩ := h.cell i d hd
  obtain ⟨a1, n1, k1, b1, o1, a2, n2, k2, b2, o2, rfl, _, x1, _, x2⟩ := bat_reads hr
  exact ⟨a1, n1, k1, b1, o1, a2, n2, k2, b2, o2, hc 0 (by decide), hc 1 (by decide), hc 2 (by decide), hc 3 (by decide), hc 4 (by decide), hc 5 (by decide), x1, x2⟩
end Go.Proofs.Ytgknjikjjklaiaa
