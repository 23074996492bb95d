/- Texts joined: Again1, RAgain1. -/
import Derived.Test.YtgknjikjjklaiaaGreatDoorJ04
import Derived.Test.YtgknjikjjklaiaaGreatDoorJ03
import Derived.Test.YtgknjikjjklaiaaGreatDoorJ08
import Derived.Test.YtgknjikjjklaiaaGreatDoorJ29
import Derived.IntWalk
section
set_option linter.unusedVariables false
set_option linter.unusedSimpArgs false
namespace Go.Proofs.YtgknjikjjklaiaaGreatDoor
open Go.RowKit Gal
theorem groups_bd : ∀ n, n < 13 → ∀ m, m < 13 → 1 ≤ m → 1 ≤ n → 1 ≤ groupsOf n m ∧ groupsOf n m ≤ 12 ∧ (groupsOf n m - 1) * m < n := by decide +kernel
def MostEnd (l e : Int) (x : Ending) : Prop :=
 ((l < 0 ∨ 12 < l ∨ e < 1 ∨ 12 < e) → x = .returned (.tuple #[.int .i64 0, errV 1])) ∧
 (0 ≤ l → l ≤ 12 → 1 ≤ e → e ≤ 12 → x = .returned (.tuple #[.int .i64 (mostIs l.toNat e.toNat), .nilIface]))
set_option maxRecDepth 100000 in
set_option maxHeartbeats 1000000 in
theorem againMost_any (l e : Int) (w : World) :
  Calls Tryz.prog 14 #[.int .i64 l, .int .i64 e] w fun x w' => w' = w ∧ MostEnd l e x := by
 by_cases hbad : l < 0 ∨ 12 < l ∨ e < 1 ∨ 12 < e
 ·have H1 : (decide (l < 0) || decide (12 < l) || decide (e < 1) || decide (12 < e)) = true := by simp; omega
  have HE : errV 1 = .iface 31 (.int .i64 1) := errV_err (by decide)
  go_enter Tryz.func14, Tryz.ntmps14
  go_wp2
  all_goals (
   refine bodyPost_ret (v := .tuple #[.int .i64 0, .iface 31 (.int .i64 1)]) (by simp [results, Tryz.results14, go_sem]) rfl ⟨rfl, fun _ => by rw [HE], fun a b c d => ?_⟩
   omega)
 ·obtain ⟨n, rfl⟩ : ∃ n : Nat, l = n := ⟨l.toNat, by omega⟩
  obtain ⟨m, rfl⟩ : ∃ m : Nat, e = m := ⟨e.toNat, by omega⟩
  have h1 : ¬ (n : Int) < 0 := by omega
  have h2 : ¬ (12 : Int) < (n : Int) := by omega
  have h3 : ¬ (m : Int) < 1 := by omega
  have h4 : ¬ (12 : Int) < (m : Int) := by omega
  by_cases h0 : n = 0
  ·subst h0
   go_enter Tryz.func14, Tryz.ntmps14
   go_wp2
   refine bodyPost_ret (v := .tuple #[.int .i64 1, .nilIface]) (by simp [results, Tryz.results14, go_sem]) rfl ⟨rfl, fun h => absurd h (by omega), fun a b c d => rfl⟩
  ·obtain ⟨g1, g2, g3⟩ := groups_bd n (by omega) m (by omega) (by omega) (by omega)
   have hm := show mostIs n m = if n = 0 then 1 else if 1 < groupsOf n m then max (groupsOf n m + 1 + (n - (groupsOf n m - 1) * m) - 1) (groupsOf n m - 1 + 1 + m - 1) else groupsOf n m + 1 + (n - (groupsOf n m - 1) * m) - 1 from rfl
   rw [if_neg h0] at hm
   have hq : ((n : Int) + (m : Int) - 1) / (m : Int) = (groupsOf n m : Int) := by
    unfold groupsOf
    rw [show (n : Int) + (m : Int) - 1 = ((n + m - 1 : Nat) : Int) by omega]
    exact (Int.natCast_ediv _ _).symm
   have hp : ((groupsOf n m : Int) - 1) * (m : Int) = (((groupsOf n m - 1) * m : Nat) : Int) := by
    rw [Int.natCast_mul, Int.natCast_sub g1]; rfl
   generalize (groupsOf n m - 1) * m = p at *
   generalize groupsOf n m = g at *
   have h0' : ¬ (n : Int) = 0 := by omega
   by_cases hg : 1 < g
   ·have hg' : (1 : Int) < (g : Int) := by omega
    rw [if_pos hg] at hm
    go_enter Tryz.func14, Tryz.ntmps14
    go_wp2
    all_goals (
     refine bodyPost_ret (v := .tuple #[.int .i64 (mostIs n m : Nat), .nilIface]) ?_ rfl ⟨rfl, fun h => ?_, fun a b c d => rfl⟩
     ·rw [hm]
      simp [results, Tryz.results14, go_sem]
      omega
     ·omega)
   ·have hg' : ¬ (1 : Int) < (g : Int) := by omega
    rw [if_neg hg] at hm
    go_enter Tryz.func14, Tryz.ntmps14
    go_wp2
    all_goals (
     refine bodyPost_ret (v := .tuple #[.int .i64 (mostIs n m : Nat), .nilIface]) ?_ rfl ⟨rfl, fun h => ?_, fun a b c d => rfl⟩
     ·rw [hm]
      simp [results, Tryz.results14, go_sem]
      omega
     ·omega)
end Go.Proofs.YtgknjikjjklaiaaGreatDoor
end
section
set_option linter.unusedVariables false
set_option linter.unusedSimpArgs false
namespace Go.Proofs.YtgknjikjjklaiaaGreatDoor
open Go.RowKit Gal
theorem mostTo_bd : ∀ n, n < 13 → ∀ e, e < 13 → 1 ≤ e → ∀ t, t ≤ n → (mostTo n e t).1 ≤ 13 ∧ (mostTo n e t).2 ≤ 12 := by decide +kernel
theorem cntKept_bd (e f : Nat) : ∀ k, 1 ≤ cntKept e f k ∧ cntKept e f k ≤ k + 1
 | 0 => ⟨Nat.le_refl _, Nat.le_refl _⟩
 | k + 1 => by
  have := cntKept_bd e f k
  unfold cntKept
  split <;> omega
theorem cntKept_yes {e f k : Nat} (h : k % e = 0 ∨ f < k) : cntKept e f (k + 1) = cntKept e f k + 1 := by
 rw [show cntKept e f (k + 1) = cntKept e f k + if k % e = 0 ∨ f < k then 1 else 0 from rfl, if_pos h]
theorem cntKept_no {e f k : Nat} (h : ¬ (k % e = 0 ∨ f < k)) : cntKept e f (k + 1) = cntKept e f k := by
 rw [show cntKept e f (k + 1) = cntKept e f k + if k % e = 0 ∨ f < k then 1 else 0 from rfl, if_neg h, Nat.add_zero]
theorem mostTo_yes {n e t : Nat} (h : (n - 1 - t) % e = 0) : mostTo n e (t + 1) = (if (mostTo n e t).1 < cntKept e (n - 1 - t) (mostTo n e t).2 then cntKept e (n - 1 - t) (mostTo n e t).2 else (mostTo n e t).1, n - 1 - t) := by
 rw [mostTo, if_pos h]
theorem mostTo_no {n e t : Nat} (h : ¬ (n - 1 - t) % e = 0) : mostTo n e (t + 1) = mostTo n e t := by
 rw [mostTo, if_neg h]
set_option maxRecDepth 100000 in
set_option maxHeartbeats 1000000 in
theorem refMostOf_any (n m : Nat) (w : World) (hn : n ≤ 12) (hm : 1 ≤ m) (hm12 : m ≤ 12) :
  Calls Tryz.prog 11 #[.int .i64 n, .int .i64 m] w fun x w' => w' = w ∧ x = .returned (.int .i64 (mostRef n m)) := by
 have hKz : ((m : Int) == 0) = false := by simp; omega
 go_enter Tryz.func11, Tryz.ntmps11
 go_wp2
 go_loopw [5, 6, 7] (fun a b c wr => ∃ t : Nat, t ≤ n ∧ a = .int .i64 ((mostTo n m t).1 : Nat) ∧ b = .int .i64 ((mostTo n m t).2 : Nat) ∧ c = .int .i64 ((n : Int) - 1 - t) ∧ wr = w) (fun _ _ c _ => (intOf c + 1).toNat)
 case atStart => exact ⟨0, Nat.zero_le _, rfl, rfl, by simp, rfl⟩
 case round =>
  obtain ⟨t, ht, rfl, rfl, rfl, rfl⟩ := hrel
  obtain ⟨b1, b2⟩ := mostTo_bd n (by omega) m (by omega) hm t ht
  by_cases hlt : t < n
  ·obtain ⟨f, hf⟩ : ∃ f, n - 1 - t = f := ⟨_, rfl⟩
   have hfi : (n : Int) - 1 - t = (f : Int) := by omega
   obtain ⟨j, hj⟩ : ∃ j, f % m = j := ⟨_, rfl⟩
   have hmI : (f : Int) % (m : Int) = (j : Int) := by rw [← Int.natCast_emod, hj]
   have hmT : (f : Int).tmod (m : Int) = (j : Int) := by rw [Int.tmod_eq_emod_of_nonneg (by omega)]; exact hmI
   have HS : Hid (j = 0 → mostTo n m (t + 1) = (if (mostTo n m t).1 < cntKept m f (mostTo n m t).2 then cntKept m f (mostTo n m t).2 else (mostTo n m t).1, f)) := Lib.hid fun h => by rw [← hf]; exact mostTo_yes (by rw [hf, hj, h])
   have HN : Hid (j ≠ 0 → mostTo n m (t + 1) = mostTo n m t) := Lib.hid fun h => mostTo_no (by rw [hf, hj]; exact h)
   have HF := Lib.hid hf
   obtain ⟨A, hA⟩ : ∃ A, (mostTo n m t).1 = A := ⟨_, rfl⟩
   obtain ⟨B, hB⟩ : ∃ B, (mostTo n m t).2 = B := ⟨_, rfl⟩
   rw [hA] at b1
   rw [hB] at b2
   rw [hA, hB] at HS
   rw [hA, hB, hfi]
   have HA := Lib.hid hA
   have HB := Lib.hid hB
   have hf0 : (0 : Int) ≤ (f : Int) := by omega
   have hf12 : f ≤ 12 := by omega
   clear hf hfi hj hA hB
   by_cases hj0 : j = 0
   ·subst hj0
    have HS' := Lib.hid (HS.out rfl)
    clear HS HN
    go_wp2
    go_loopw [8, 9] (fun a c wx => ∃ k : Nat, k ≤ B ∧ a = .int .i64 (cntKept m f k : Nat) ∧ c = .int .i64 k ∧ wx = wr) (fun _ c _ => B - (intOf c).toNat)
    case atStart => exact ⟨0, Nat.zero_le _, rfl, rfl, rfl⟩
    case round =>
     obtain ⟨k, hk, rfl, rfl, rfl⟩ := hrel
     have hc := cntKept_bd m f k
     by_cases hkb : k < B
     ·obtain ⟨i, hi⟩ : ∃ i, k % m = i := ⟨_, rfl⟩
      have hmI2 : (k : Int) % (m : Int) = (i : Int) := by rw [← Int.natCast_emod, hi]
      have hmT2 : (k : Int).tmod (m : Int) = (i : Int) := by rw [Int.tmod_eq_emod_of_nonneg (by omega)]; exact hmI2
      have HY : Hid ((i = 0 ∨ f < k) → cntKept m f (k + 1) = cntKept m f k + 1) := Lib.hid fun h => cntKept_yes (by rw [hi]; exact h)
      have HW : Hid (¬ (i = 0 ∨ f < k) → cntKept m f (k + 1) = cntKept m f k) := Lib.hid fun h => cntKept_no (by rw [hi]; exact h)
      clear hi
      by_cases hi0 : i = 0
      ·subst hi0
       go_wp2
       go_roundw
       case rel => exact ⟨k + 1, by omega, by rw [HY.out (Or.inl rfl)]; go_num, by go_num, by trivial⟩
       case measure => simp [intOf] <;> omega
      ·have hi1 : ¬ (i : Int) = 0 := by omega
       by_cases hfk : f < k
       ·have hfk' : (f : Int) < (k : Int) := by omega
        go_wp2
        go_roundw
        case rel => exact ⟨k + 1, by omega, by rw [HY.out (Or.inr hfk)]; go_num, by go_num, by trivial⟩
        case measure => simp [intOf] <;> omega
       ·have hfk' : ¬ (f : Int) < (k : Int) := by omega
        go_wp2
        go_roundw
        case rel => exact ⟨k + 1, by omega, by rw [HW.out (by omega)], by go_num, by trivial⟩
        case measure => simp [intOf] <;> omega
     ·obtain rfl : k = B := by omega
      by_cases hac : A < cntKept m f k
      ·have hac' : (A : Int) < (cntKept m f k : Int) := by omega
       have HT := Lib.hid (HS'.out)
       rw [if_pos hac] at HT
       clear HS'
       go_wp2
       go_roundw
       case rel => exact ⟨t + 1, by omega, by rw [HT.out], by rw [HT.out], by have := HF.out; congr 1; omega, by trivial⟩
       case measure => simp [intOf] <;> omega
      ·have hac' : ¬ (A : Int) < (cntKept m f k : Int) := by omega
       have HT := Lib.hid (HS'.out)
       rw [if_neg hac] at HT
       clear HS'
       go_wp2
       go_roundw
       case rel => exact ⟨t + 1, by omega, by rw [HT.out], by rw [HT.out], by have := HF.out; congr 1; omega, by trivial⟩
       case measure => simp [intOf] <;> omega
   ·have hj1 : ¬ (j : Int) = 0 := by omega
    have HN' := Lib.hid (HN.out hj0)
    clear HS HN
    go_wp2
    go_roundw
    case rel => exact ⟨t + 1, by omega, by rw [HN'.out, HA.out], by rw [HN'.out, HB.out], by have := HF.out; congr 1; omega, by trivial⟩
    case measure => simp [intOf] <;> omega
  ·obtain rfl : t = n := by omega
   have hend : ¬ (0 : Int) ≤ (t : Int) - 1 - t := by omega
   have HM : Hid (mostRef t m = if (mostTo t m t).1 = 0 then 1 else (mostTo t m t).1) := Lib.hid rfl
   by_cases h0 : (mostTo t m t).1 = 0
   ·rw [h0] at HM ⊢
    go_wp2
    refine bodyPost_ret (v := .int .i64 1) (by simp [results, Tryz.results11, go_sem]) rfl ⟨rfl, by rw [HM.out]; rfl⟩
   ·have h0' : ¬ ((mostTo t m t).1 : Int) = 0 := by omega
    rw [if_neg h0] at HM
    go_wp2
    refine bodyPost_ret (v := .int .i64 (mostTo t m t).1) (by simp [results, Tryz.results11, go_sem]) rfl ⟨rfl, by rw [HM.out]⟩
end Go.Proofs.YtgknjikjjklaiaaGreatDoor
end
