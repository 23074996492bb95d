/- Texts joined: Again1. -/
import Derived.Test.YtgknjikjjklaiaaJ06
import Derived.Test.YtgknjikjjklaiaaJ04
import Derived.Test.YtgknjikjjklaiaaJ10
import Derived.Test.YtgknjikjjklaiaaJ27
import Derived.IntWalk
section
set_option linter.unusedVariables false
set_option linter.unusedSimpArgs false
namespace Go.Proofs.Ytgknjikjjklaiaa
open Go.RowKit Gal
theorem groups_bd : ∀ n, n < 13 → ∀ m, m < 13 → 1 ≤ m → 1 ≤ n → 1 ≤ groupsOf n m ∧ groupsOf n m ≤ 12 ∧ (groupsOf n m - 1) * m < n := by decide +kernel
def MostEnd (l e : Int) (x : Ending) : Prop :=
 ((l < 0 ∨ 12 < l ∨ e < 1 ∨ 12 < e) → x = .returned (.tuple #[.int .i64 0, errV 1])) ∧
 (0 ≤ l → l ≤ 12 → 1 ≤ e → e ≤ 12 → x = .returned (.tuple #[.int .i64 (mostIs l.toNat e.toNat), .nilIface]))
set_option maxRecDepth 100000 in
set_option maxHeartbeats 1000000 in
theorem againMost_any (l e : Int) (w : World) :
  Calls Try.prog 5 #[.int .i64 l, .int .i64 e] w fun x w' => w' = w ∧ MostEnd l e x := by
 by_cases hbad : l < 0 ∨ 12 < l ∨ e < 1 ∨ 12 < e
 ·have H1 : (decide (l < 0) || decide (12 < l) || decide (e < 1) || decide (12 < e)) = true := by simp; omega
  have HE : errV 1 = .iface 56 (.int .i64 1) := errV_err (by decide)
  go_enter Try.func5, Try.ntmps5
  go_wp2
  all_goals (
   refine bodyPost_ret (v := .tuple #[.int .i64 0, .iface 56 (.int .i64 1)]) (by simp [results, Try.results5, go_sem]) rfl ⟨rfl, fun _ => by rw [HE], fun a b c d => ?_⟩
   omega)
 ·obtain ⟨n, rfl⟩ : ∃ n : Nat, l = n := ⟨l.toNat, by omega⟩
  obtain ⟨m, rfl⟩ : ∃ m : Nat, e = m := ⟨e.toNat, by omega⟩
  have h1 : ¬ (n : Int) < 0 := by omega
  have h2 : ¬ (12 : Int) < (n : Int) := by omega
  have h3 : ¬ (m : Int) < 1 := by omega
  have h4 : ¬ (12 : Int) < (m : Int) := by omega
  by_cases h0 : n = 0
  ·subst h0
   go_enter Try.func5, Try.ntmps5
   go_wp2
   refine bodyPost_ret (v := .tuple #[.int .i64 1, .nilIface]) (by simp [results, Try.results5, go_sem]) rfl ⟨rfl, fun h => absurd h (by omega), fun a b c d => rfl⟩
  ·obtain ⟨g1, g2, g3⟩ := groups_bd n (by omega) m (by omega) (by omega) (by omega)
   have hm := show mostIs n m = if n = 0 then 1 else if 1 < groupsOf n m then max (groupsOf n m + 1 + (n - (groupsOf n m - 1) * m) - 1) (groupsOf n m - 1 + 1 + m - 1) else groupsOf n m + 1 + (n - (groupsOf n m - 1) * m) - 1 from rfl
   rw [if_neg h0] at hm
   have hq : ((n : Int) + (m : Int) - 1) / (m : Int) = (groupsOf n m : Int) := by
    unfold groupsOf
    rw [show (n : Int) + (m : Int) - 1 = ((n + m - 1 : Nat) : Int) by omega]
    exact (Int.natCast_ediv _ _).symm
   have hp : ((groupsOf n m : Int) - 1) * (m : Int) = (((groupsOf n m - 1) * m : Nat) : Int) := by
    rw [Int.natCast_mul, Int.natCast_sub g1]; rfl
   generalize (groupsOf n m - 1) * m = p at *
   generalize groupsOf n m = g at *
   have h0' : ¬ (n : Int) = 0 := by omega
   by_cases hg : 1 < g
   ·have hg' : (1 : Int) < (g : Int) := by omega
    rw [if_pos hg] at hm
    go_enter Try.func5, Try.ntmps5
    go_wp2
    all_goals (
     refine bodyPost_ret (v := .tuple #[.int .i64 (mostIs n m : Nat), .nilIface]) ?_ rfl ⟨rfl, fun h => ?_, fun a b c d => rfl⟩
     ·rw [hm]
      simp [results, Try.results5, go_sem]
      omega
     ·omega)
   ·have hg' : ¬ (1 : Int) < (g : Int) := by omega
    rw [if_neg hg] at hm
    go_enter Try.func5, Try.ntmps5
    go_wp2
    all_goals (
     refine bodyPost_ret (v := .tuple #[.int .i64 (mostIs n m : Nat), .nilIface]) ?_ rfl ⟨rfl, fun h => ?_, fun a b c d => rfl⟩
     ·rw [hm]
      simp [results, Try.results5, go_sem]
      omega
     ·omega)
end Go.Proofs.Ytgknjikjjklaiaa
end
