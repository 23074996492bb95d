/- How the law's arguments are opened: integers, matrices. -/
import Derived.Test.YtgknjikjjklaiaaDoorBaseR
import Derived.Test.YtgknjikjjklaiaaDoorProg
import Derived.ProofKit
import Derived.OpenShut
import Derived.Lib.SmallJoins
set_option linter.unusedVariables false
set_option linter.unusedSimpArgs false
namespace Go.Proofs.YtgknjikjjklaiaaDoor
open Go.ChangeShapes Go.WideShapes Go.ChangeAt Go.RowKit Go.Joins Gal

theorem cells_mat : Tryd.prog.cellsOf 24 = 3 := by kernel_rfl
theorem cells_int : Tryd.prog.cellsOf 3 = 1 := by kernel_rfl

theorem open_ints_at {H : Type} {enc : TypeId × Value → H} {w : World} {base : Nat} {spare : Nat → Bool} {held : Bool} {fuel : Nat} {v : Value} {y : DataW H × List MemPlace}
    (h : DataW.trod enc Tryd.prog w base spare held fuel 22 [v] = some y) : ∃ a n cap b off xs, v = .slice a n cap ∧ IntsAt w a n cap b off xs := by
  rcases open_ints Tryd.underlying22 Tryd.underlying3 cells_int h with ⟨hcs, _⟩ | ⟨x, l, c, zs, hcs, _, hl, hm, hz, _, hcell, hwz⟩
  · simp at hcs
    subst hcs
    exact ⟨none, 0, 0, 0, 0, [], rfl, rfl, Nat.le_refl _, Nat.zero_le _, fun h => absurd h (Nat.lt_irrefl _), fun h => absurd h (Nat.lt_irrefl _), fun i hi => absurd hi (Nat.not_lt_zero _)⟩
  · simp at hcs
    subst hcs
    obtain ⟨b, off, spot⟩ := x
    have hlz : l ≤ zs.length := by rw [hz]; split <;> omega
    have hp : 0 < l → spot = none := fun h0 => by
      have := hcell 0 (by omega)
      simpa [Addr.add] using World.cell?_spot this
    refine ⟨_, l, c, b, off, zs.take l, rfl, by rw [List.length_take]; omega, hl, hm, fun h0 => by rw [hp h0], fun h0 => ?_, fun i hi => ?_⟩
    · have h1 := hcell 0 (by omega)
      have h2 := World.block_lt_of_cell? w _ h1
      simpa [Addr.add] using h2
    · have h1 := hcell i (by omega)
      have h2 := hp (by omega)
      subst h2
      have hadd : (⟨b, off, none⟩ : Addr).add i = ⟨b, off + i, none⟩ := by unfold Addr.add; split <;> simp_all
      rw [hadd] at h1
      rw [h1]
      unfold ix
      rw [List.getElem?_take_of_lt hi, List.getD_eq_getElem?_getD]

set_option maxRecDepth 100000 in
theorem open_mat {H : Type} {enc : TypeId × Value → H} {w : World} {base b0 : Nat} {r : Reach} {spare : Nat → Bool} {held : Bool} {v : Value} {d : DataW H} {p : List MemPlace}
    (hv : Value.okWide Tryd.prog w r b0 24 v) (h : DataW.Trod enc Tryd.prog w base spare held 24 v d p) : ∃ m : Mat, MatAt w v m := by
  obtain ⟨v0, v1, v2, y0, y1, y2, n, rfl, _, _, h0, h1, h2⟩ := open_agg3 Tryd.underlying24 (by kernel_rfl) cells_mat hv h
  obtain ⟨x0, e0, _, _⟩ := DataW.trod_int Tryd.underlying3 h0
  obtain ⟨x1, e1, _, _⟩ := DataW.trod_int Tryd.underlying3 h1
  obtain ⟨a, n2, cap, b, off, xs, rfl, hi⟩ := open_ints_at h2
  simp at e0 e1
  subst e0 e1
  exact ⟨⟨x0, x1, xs⟩, a, n2, cap, b, off, rfl, hi⟩
end Go.Proofs.YtgknjikjjklaiaaDoor
