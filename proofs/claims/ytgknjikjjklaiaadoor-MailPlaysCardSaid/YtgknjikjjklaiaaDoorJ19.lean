/- Texts joined: Same. -/
import Derived.Test.YtgknjikjjklaiaaDoorProg
import Derived.Test.YtgknjikjjklaiaaDoorJ02
import Derived.Test.YtgknjikjjklaiaaDoorJ05
import Derived.WalkKit
import Derived.WalkLawsBesides
import Derived.WalkSpells
import Derived.Test.YtgknjikjjklaiaaDoorJ03
import Derived.BigQuiet
import Derived.IntWalk
import Derived.RegionTactic
section
set_option linter.unusedVariables false
set_option linter.unusedSimpArgs false
namespace Go.Proofs.YtgknjikjjklaiaaDoor
open Go.RowKit Gal
set_option maxRecDepth 100000 in
set_option maxHeartbeats 1000000 in
theorem matrices_any (ma mb : Mat) (va vb : Value) (w : World) (ha : MatAt w va ma) (hb : MatAt w vb mb) :
  Calls Tryd.prog 41 #[va, vb] w fun e w' => e = .returned (.bool (decide (ma = mb))) ∧ Below w.heap.size w w' := by
 obtain ⟨r0, c0, xs⟩ := ma
 obtain ⟨r1, c1, ys⟩ := mb
 obtain ⟨a0, n0, k0, b0, o0, rfl, h0⟩ := ha
 obtain ⟨a1, n1, k1, b1, o1, rfl, h1⟩ := hb
 dsimp only at h0 h1
 by_cases h : r0 = r1 ∧ c0 = c1
 ·obtain ⟨rfl, rfl⟩ := h
  have e1 : (r0 != r0) = false := by simp
  have e2 : (c0 != c0) = false := by simp
  go_enter Tryd.func41, Tryd.ntmps41
  go_wp2_with fail
  refine (ints_any _ _ _ _ _ _ _ _ _ _ xs ys _ (h0.alloc _ |>.alloc _) (h1.alloc _ |>.alloc _)).mono ?_
  rintro e w1 ⟨rfl, m, rfl⟩
  go_wp2
  go_ret
  refine ⟨ret_val ?_, Below.x0⟩
  simp [go_sem]
 ·have hd : decide ((⟨r0, c0, xs⟩ : Mat) = ⟨r1, c1, ys⟩) = false := decide_eq_false (fun e => h (by simp only [Mat.mk.injEq] at e; exact ⟨e.1, e.2.1⟩))
  rw [hd]
  clear hd
  by_cases hr : r0 = r1
  ·subst hr
   have e1 : (r0 != r0) = false := by simp
   have e2 : (c0 != c1) = true := by simp; intro e; exact h ⟨rfl, e⟩
   clear h
   go_enter Tryd.func41, Tryd.ntmps41
   go_wp2
   go_ret
   exact ⟨rfl, Below.x0⟩
  ·have e1 : (r0 != r1) = true := by simp [hr]
   clear h hr
   go_enter Tryd.func41, Tryd.ntmps41
   go_wp2
   go_ret
   exact ⟨rfl, Below.x0⟩
end Go.Proofs.YtgknjikjjklaiaaDoor
end
