/- Contracts of the reference: Plans, of two plans that are the same. -/
import Derived.Test.YtjaepdkeldgikaaDoorRPlan1
import Derived.Laws.StructEq
import Derived.BigQuiet
set_option linter.unusedVariables false
set_option linter.unusedSimpArgs false
set_option linter.unusedSectionVars false
set_option maxRecDepth 100000
namespace Go.Proofs.YtjaepdkeldgikaaDoor
open Go.RowKit Gal Go.Maps
set_option maxHeartbeats 4000000
theorem plans_same (p : PlanD) (a a' : Option Addr) (n k b o k' b' o' : Nat) (F F' : Nat → Prop) (w : World) (h : RowAt Form.plan w F a n k b o p) (h' : RowAt Form.plan w F' a' n k' b' o' p) :
    Calls Tryd.prog 11 #[.slice a n k, .slice a' n k'] w fun e w' => e = .returned (.bool true) ∧ ∃ m, w' = w.drewN m := by
  have hmx := h.max
  unfold maxLen at hmx
  have hnn : ((n : Int) != (n : Int)) = false := by simp
  go_enter Tryd.func11, Tryd.ntmps11
  go_wp2
  go_loopw [5] (fun i wr => ∃ t q : Nat, t ≤ n ∧ i = .int .i64 t ∧ wr = w.drewN q) (fun i _ => n - (intOf i).toNat)
  case atStart => exact ⟨0, 0, Nat.zero_le _, rfl, rfl⟩
  case round =>
    obtain ⟨t, q, ht, rfl, rfl⟩ := hrel
    by_cases hlt : t < n
    · obtain rfl := h.ptr (by omega)
      obtain rfl := h'.ptr (by omega)
      obtain ⟨a1, n1, k1, b1, o1, c0, hr1⟩ := plan_cell h hlt
      obtain ⟨a2, n2, k2, b2, o2, d0, hr2⟩ := plan_cell h' hlt
      obtain rfl : n1 = n2 := by rw [← hr1.len, ← hr2.len]
      have hmx1 := hr1.max
      unfold maxLen at hmx1
      have h0 : (0 : Int) ≤ (t : Int) := by omega
      have h1 : (t : Int) < (n : Int) := by omega
      have hss : ((n1 : Int) != (n1 : Int)) = false := by simp
      go_wp2
      go_quiet (fail)
      go_wp2
      go_loopw [6] (fun i wr => ∃ j q : Nat, j ≤ n1 ∧ i = .int .i64 j ∧ wr = w.drewN q) (fun i _ => n1 - (intOf i).toNat)
      case atStart => exact ⟨0, _, Nat.zero_le _, rfl, (by first | rfl | exact World.drewN_drewN _ _ _)⟩
      case round =>
        obtain ⟨j, q2, hj, rfl, rfl⟩ := hrel
        by_cases hlt2 : j < n1
        · obtain rfl := hr1.ptr (by omega)
          obtain rfl := hr2.ptr (by omega)
          obtain ⟨c1, c2⟩ := act_cells hr1 hlt2
          obtain ⟨d1, d2⟩ := act_cells hr2 hlt2
          obtain ⟨⟨x0, x1⟩, hx⟩ : ∃ x, ax (px p t) j = x := ⟨_, rfl⟩
          rw [hx] at c1 c2 d1 d2
          dsimp only at c1 c2 d1 d2
          have h2 : (0 : Int) ≤ (j : Int) := by omega
          have h3 : (j : Int) < (n1 : Int) := by omega
          clear hx
          go_wp2
          go_quiet (fail)
          go_wp2
          go_roundw
          case rel => exact ⟨j + 1, _, by omega, by go_num, (by first | rfl | exact World.drewN_drewN _ _ _)⟩
          case measure => simp [intOf]; omega
        · obtain rfl : n1 = j := by omega
          go_wp2
          go_roundw
          case rel => exact ⟨t + 1, _, by omega, by go_num, rfl⟩
          case measure => simp [intOf]; omega
    · obtain rfl : n = t := by omega
      go_wp2
      go_ret
      exact ⟨rfl, q, rfl⟩
end Go.Proofs.YtjaepdkeldgikaaDoor
