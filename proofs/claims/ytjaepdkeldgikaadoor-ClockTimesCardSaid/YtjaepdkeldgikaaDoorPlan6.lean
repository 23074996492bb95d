/- Contracts of package plan: Wave, Turns. -/
import Derived.Test.YtjaepdkeldgikaaDoorPlan5
set_option linter.unusedVariables false
set_option linter.unusedSimpArgs false
set_option linter.unusedSectionVars false
namespace Go.Proofs.YtjaepdkeldgikaaDoor
open Go.RowKit Gal Go.Maps
set_option maxRecDepth 100000
set_option maxHeartbeats 4000000
/-- a plan of the call's own -/
def PlanNew (w w' : World) (S : Nat) (v : Value) (p : PlanD) : Prop :=
  ∃ a k b hs, v = .slice a S k ∧ hs.map (·.2) = p ∧ Rising hs ∧ (∀ y ∈ hs, w.heap.size ≤ y.1.1 ∧ y.1.1 ≠ b) ∧ RowAt Form.hdr w' anyB a S k b 0 hs ∧ w.heap.size ≤ b
theorem planNew_row {w w' : World} {S : Nat} {v : Value} {p : PlanD} (h : PlanNew w w' S v p) : ∃ a k b, v = .slice a S k ∧ w.heap.size ≤ b ∧ RowAt Form.plan w' anyB a S k b 0 p := by
  obtain ⟨a, k, b, hs, rfl, h1, _, _, h4, h5⟩ := h
  have := hdr_plan h4
  rw [h1] at this
  exact ⟨a, k, b, rfl, h5, this⟩
theorem ahead_bad (S M : Int) (f : Value) (w : World) (h : ¬ ((1 ≤ S ∧ S ≤ 6) ∧ 1 ≤ M ∧ M ≤ 12)) : Calls Tryd.prog 34 #[.int .i64 S, .int .i64 M, f] w fun e w' => e = .returned (.tuple #[.slice none 0 0, errV 1]) ∧ w = w' := by
  have HB := Lib.hid h
  clear h
  rw [errV_err (by decide)]
  go_enter Tryd.func34, Tryd.ntmps34
  go_wp2_with fail
  refine (planFits_any S M w).mono ?_
  rintro e w1 ⟨rfl, rfl⟩
  rw [decide_eq_false HB.out]
  go_wp2
  go_ret2
  exact ⟨rfl, rfl⟩
theorem planWave_ok (S M : Nat) (w : World) (hS : 1 ≤ S ∧ S ≤ 6) (hM : 1 ≤ M ∧ M ≤ 12) : Calls Tryd.prog 8 #[.int .i64 S, .int .i64 M] w fun e w' => ∃ v, e = .returned (.tuple #[v, .nilIface]) ∧ PlanNew w w' S v (waveOf S M) ∧ Below w.heap.size w w' := by
  go_enter Tryd.func8, Tryd.ntmps8
  go_wp2_with fail
  refine (aheadWave_ok S M w.heap.size 3 _ (Box.new _ _ _) hS hM).mono ?_
  rintro e w1 ⟨a, k, b, hs, rfl, h1, h2, h3, h4, h5, hb1⟩
  go_wp2
  go_ret2
  exact ⟨_, rfl, ⟨a, k, b, hs, rfl, h1, h2, fun y hy => ⟨by have := (h3 y hy).1; simp at this; omega, (h3 y hy).2⟩, h4, by simp at h5; omega⟩, (by repeat (first | fail | (with_reducible exact Below.refl _ _) | (with_reducible refine Below.al ?_ _) | (with_reducible refine Below.drN ?_ _) | (with_reducible refine Below.drew ?_) | (with_reducible refine Below.st ?_ ?_ _; rotate_left 1; (first | (dsimp only; omega) | omega | (simp; omega) | simp)) | (with_reducible refine Below.go ?_ hb1) | exact Below.refl _ _))⟩
theorem planTurns_ok (S M : Nat) (w : World) (hS : 1 ≤ S ∧ S ≤ 6) (hM : 1 ≤ M ∧ M ≤ 12) : Calls Tryd.prog 12 #[.int .i64 S, .int .i64 M] w fun e w' => ∃ v, e = .returned (.tuple #[v, .nilIface]) ∧ PlanNew w w' S v (turnsOf S M) ∧ Below w.heap.size w w' := by
  go_enter Tryd.func12, Tryd.ntmps12
  go_wp2_with fail
  refine (aheadTurns_ok S M w.heap.size 3 _ (Box.new _ _ _) hS hM).mono ?_
  rintro e w1 ⟨a, k, b, hs, rfl, h1, h2, h3, h4, h5, hb1⟩
  go_wp2
  go_ret2
  exact ⟨_, rfl, ⟨a, k, b, hs, rfl, h1, h2, fun y hy => ⟨by have := (h3 y hy).1; simp at this; omega, (h3 y hy).2⟩, h4, by simp at h5; omega⟩, (by repeat (first | fail | (with_reducible exact Below.refl _ _) | (with_reducible refine Below.al ?_ _) | (with_reducible refine Below.drN ?_ _) | (with_reducible refine Below.drew ?_) | (with_reducible refine Below.st ?_ ?_ _; rotate_left 1; (first | (dsimp only; omega) | omega | (simp; omega) | simp)) | (with_reducible refine Below.go ?_ hb1) | exact Below.refl _ _))⟩
theorem planWave_bad (S M : Int) (w : World) (h : ¬ ((1 ≤ S ∧ S ≤ 6) ∧ 1 ≤ M ∧ M ≤ 12)) : Calls Tryd.prog 8 #[.int .i64 S, .int .i64 M] w fun e w' => e = .returned (.tuple #[.slice none 0 0, errV 1]) ∧ Below w.heap.size w w' := by
  have HB := Lib.hid h
  clear h
  go_enter Tryd.func8, Tryd.ntmps8
  go_wp2_with fail
  refine (ahead_bad S M _ _ HB.out).mono ?_
  rintro e w1 ⟨rfl, rfl⟩
  rw [errV_err (by decide)]
  go_wp2
  go_ret2
  exact ⟨rfl, (by repeat (first | fail | (with_reducible exact Below.refl _ _) | (with_reducible refine Below.al ?_ _) | (with_reducible refine Below.drN ?_ _) | (with_reducible refine Below.drew ?_) | (with_reducible refine Below.st ?_ ?_ _; rotate_left 1; (first | (dsimp only; omega) | omega | (simp; omega) | simp)) | exact Below.refl _ _))⟩
theorem planTurns_bad (S M : Int) (w : World) (h : ¬ ((1 ≤ S ∧ S ≤ 6) ∧ 1 ≤ M ∧ M ≤ 12)) : Calls Tryd.prog 12 #[.int .i64 S, .int .i64 M] w fun e w' => e = .returned (.tuple #[.slice none 0 0, errV 1]) ∧ Below w.heap.size w w' := by
  have HB := Lib.hid h
  clear h
  go_enter Tryd.func12, Tryd.ntmps12
  go_wp2_with fail
  refine (ahead_bad S M _ _ HB.out).mono ?_
  rintro e w1 ⟨rfl, rfl⟩
  rw [errV_err (by decide)]
  go_wp2
  go_ret2
  exact ⟨rfl, (by repeat (first | fail | (with_reducible exact Below.refl _ _) | (with_reducible refine Below.al ?_ _) | (with_reducible refine Below.drN ?_ _) | (with_reducible refine Below.drew ?_) | (with_reducible refine Below.st ?_ ?_ _; rotate_left 1; (first | (dsimp only; omega) | omega | (simp; omega) | simp)) | exact Below.refl _ _))⟩
/-- what is wrong with a plan, whatever it is -/
theorem planCheck_any (p : PlanD) (M : Int) (a : Option Addr) (n k b o : Nat) (F : Nat → Prop) (w : World) (h : RowAt Form.plan w F a n k b o p) :
    Calls Tryd.prog 13 #[.slice a n k, .int .i64 M] w fun e w' => e = .returned (errV (planFault M p)) ∧ Below w.heap.size w w' := by
  by_cases hb : planBad M p
  · exact planCheck_bad p M a n k b o F w h hb
  · obtain ⟨m, rfl⟩ : ∃ m : Nat, M = m := ⟨M.toNat, by unfold planBad at hb; omega⟩
    exact planCheck_ok p m a n k b o F w h hb
end Go.Proofs.YtjaepdkeldgikaaDoor
