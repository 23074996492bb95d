/- Contracts of galleylaw3: state, states (of two that are the same). -/
import Derived.Test.YtgknjikjjklaiaaDoorOpenS
import Derived.Test.YtgknjikjjklaiaaDoorSameL
import Derived.Test.YtgknjikjjklaiaaDoorGrads
set_option linter.unusedVariables false
set_option linter.unusedSimpArgs false
set_option linter.unusedSectionVars false
set_option maxRecDepth 100000
namespace Go.Proofs.YtgknjikjjklaiaaDoor
open Go.RowKit Gal
set_option maxHeartbeats 4000000
theorem lawState_any (z : Int) (a0 a1 : Option Addr) (n n1 k0 k1 : Nat) (w : World) :
    Calls Tryd.prog 23 #[.agg #[.slice a0 n k0, .slice a1 n1 k1, .int .i64 z]] w fun e w' => e = .returned (.agg #[.slice a0 n k0, .slice a1 n1 k1, .int .i64 z]) ∧ Below w.heap.size w w' := by
  have hB : Box ((w.alloc (.cells #[.slice a0 n k0, .slice a1 n1 k1, .int .i64 z] 61)).alloc (.cells #[.slice a0 n k0, .slice a1 n1 k1, .int .i64 z] 62)) (w.heap.size + 1) [.slice a0 n k0, .slice a1 n1 k1, .int .i64 z] 62 := Box.new' _ _ [.slice a0 n k0, .slice a1 n1 k1, .int .i64 z] _ (by simp)
  have z0 := hB.cell 0
  have z1 := hB.cell 1
  have z2 := hB.cell 2
  go_enter Tryd.func23, Tryd.ntmps23
  go_wp2
  refine bodyPost_ret (v := .agg #[.slice a0 n k0, .slice a1 n1 k1, .int .i64 z]) (by simp [results, Tryd.results23, go_sem, z0, z1, z2]) rfl ⟨rfl, (by repeat (first | fail | (with_reducible exact Below.refl _ _) | (with_reducible refine Below.al ?_ _) | (with_reducible refine Below.drN ?_ _) | (with_reducible refine Below.drew ?_) | (with_reducible refine Below.st ?_ ?_ _; rotate_left 1; (first | (dsimp only; omega) | omega | (simp; omega) | simp)) | exact Below.refl _ _))⟩
theorem states_same (s : Sta) (v v' : Value) (w : World) (h : StaV w v s) (h' : StaV w v' s) :
    Calls Tryd.prog 29 #[v, v'] w fun e w' => e = .returned (.bool true) ∧ Below w.heap.size w w' := by
  obtain ⟨a0, n, k0, b0, o0, a1, n1, k1, b1, o1, rfl, h0, h1⟩ := h
  obtain ⟨a2, n2, k2, b2, o2, a3, n3, k3, b3, o3, rfl, h2, h3⟩ := h'
  obtain ⟨z, hz⟩ : ∃ z, s.steps = z := ⟨_, rfl⟩
  rw [hz]
  clear hz
  go_enter Tryd.func29, Tryd.ntmps29
  go_wp2_with fail
  refine (layers_same s.N anyB anyB _ _ _ _ _ _ _ _ _ _ _ (h0.alloc _ |>.alloc _) (h2.alloc _ |>.alloc _)).mono ?_
  rintro e w1 ⟨rfl, hb1⟩
  have B1 := ((show Box _ w.heap.size [.slice a0 n k0, .slice a1 n1 k1, .int .i64 z] 62 from (by repeat (first | fail | (with_reducible refine (Box.new' _ w.heap.size _ _ ?_); (simp; done)) | (with_reducible refine Box.alloc ?_ _) | (with_reducible refine Box.drewN ?_ _) | (with_reducible refine Box.drew ?_) | (with_reducible refine Box.far ?_ ?_ _; rotate_left 1; (first | (dsimp only; omega) | omega | (simp; omega) | simp)))))).keep hb1
  have B1c := B1.cell
  have B1f := B1.thawed
  have B1z := B1.lt
  have B1k := lt_add B1z
  have B2 := ((show Box _ (w.heap.size + 1) [.slice a2 n2 k2, .slice a3 n3 k3, .int .i64 z] 62 from (by repeat (first | fail | (with_reducible refine (Box.new' _ (w.heap.size + 1) _ _ ?_); (simp; done)) | (with_reducible refine Box.alloc ?_ _) | (with_reducible refine Box.drewN ?_ _) | (with_reducible refine Box.drew ?_) | (with_reducible refine Box.far ?_ ?_ _; rotate_left 1; (first | (dsimp only; omega) | omega | (simp; omega) | simp)))))).keep hb1
  have B2c := B2.cell
  have B2f := B2.thawed
  have B2z := B2.lt
  have B2k := lt_add B2z
  have hkw1 : Below w.heap.size w w1 := (by repeat (first | fail | (with_reducible exact Below.refl _ _) | (with_reducible refine Below.al ?_ _) | (with_reducible refine Below.drN ?_ _) | (with_reducible refine Below.drew ?_) | (with_reducible refine Below.st ?_ ?_ _; rotate_left 1; (first | (dsimp only; omega) | omega | (simp; omega) | simp)) | (with_reducible refine Below.go ?_ hb1) | exact Below.refl _ _))
  replace h1 := h1.keep hkw1
  replace h3 := h3.keep hkw1
  have hsw1 := hkw1.size
  go_wp2_with fail
  refine (grads_same s.V anyB anyB _ _ _ _ _ _ _ _ _ _ _ h1 h3).mono ?_
  rintro e w2 ⟨rfl, hb2⟩
  have hkw2 : Below w1.heap.size w1 w2 := (by repeat (first | fail | (with_reducible exact Below.refl _ _) | (with_reducible refine Below.al ?_ _) | (with_reducible refine Below.drN ?_ _) | (with_reducible refine Below.drew ?_) | (with_reducible refine Below.st ?_ ?_ _; rotate_left 1; (first | (dsimp only; omega) | omega | (simp; omega) | simp)) | (with_reducible refine Below.go ?_ hb2) | exact Below.refl _ _))
  replace B1 := B1.keep hkw2
  replace B1c := B1.cell
  replace B1f := B1.thawed
  replace B1z := B1.lt
  replace B1k := lt_add B1z
  replace B2 := B2.keep hkw2
  replace B2c := B2.cell
  replace B2f := B2.thawed
  replace B2z := B2.lt
  replace B2k := lt_add B2z
  have hsw2 := hkw2.size
  have hbe : Below w.heap.size w w2 := (by repeat (first | fail | (with_reducible exact Below.refl _ _) | (with_reducible refine Below.al ?_ _) | (with_reducible refine Below.drN ?_ _) | (with_reducible refine Below.drew ?_) | (with_reducible refine Below.st ?_ ?_ _; rotate_left 1; (first | (dsimp only; omega) | omega | (simp; omega) | simp)) | (with_reducible refine Below.go ?_ hb2) | (with_reducible refine Below.go ?_ hb1) | exact Below.refl _ _))
  have hzz : (z == z) = true := by simp
  clear h0 h1 h2 h3 hb1 hb2
  go_wp2
  go_ret
  exact ⟨rfl, hbe⟩
end Go.Proofs.YtgknjikjjklaiaaDoor
