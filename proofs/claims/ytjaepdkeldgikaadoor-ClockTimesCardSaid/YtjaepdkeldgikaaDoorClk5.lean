/- Contracts of package clock: Times, where something is wrong. -/
import Derived.Test.YtjaepdkeldgikaaDoorClk3
import Derived.Test.YtjaepdkeldgikaaDoorPeak1
set_option linter.unusedVariables false
set_option linter.unusedSimpArgs false
set_option linter.unusedSectionVars false
set_option maxRecDepth 100000
namespace Gal
open Go Go.RowKit
def costOk (l : List Int) (n : Nat) : Prop := ∀ i, i < n → 1 ≤ ix l i ∧ ix l i ≤ 1000000
instance (l : List Int) (n : Nat) : Decidable (costOk l n) := by unfold costOk; exact inferInstance
/-- what is wrong with a plan and what stages take -/
def timesFault (M : Int) (p : PlanD) (th bk : List Int) : Int :=
  if planFault M p ≠ 0 then planFault M p else if ¬ (th.length = p.length ∧ bk.length = p.length) then 2 else if ¬ (costOk th p.length ∧ costOk bk p.length) then 1 else 0
end Gal
namespace Go.Proofs.YtjaepdkeldgikaaDoor
open Go.RowKit Gal Go.Maps
set_option maxHeartbeats 4000000
theorem clkTimes_plan (p : PlanD) (M : Int) (a ta ba : Option Addr) (n k b o nt kt nb kb : Nat) (F : Nat → Prop) (w : World) (h : RowAt Form.plan w F a n k b o p) (hf : planFault M p ≠ 0) :
    Calls Tryd.prog 28 #[.slice a n k, .int .i64 M, .slice ta nt kt, .slice ba nb kb] w fun e w' => e = .returned (.tuple #[.slice none 0 0, errV (planFault M p)]) ∧ Below w.heap.size w w' := by
  have HF := Lib.hid hf
  clear hf
  go_enter Tryd.func28, Tryd.ntmps28
  go_wp2_with fail
  refine (planCheck_any p M a n k b o F w h).mono ?_
  rintro e w1 ⟨rfl, hb1⟩
  rw [errV_err HF.out]
  go_wp2
  go_ret2
  exact ⟨by rw [errV_err HF.out]; rfl, hb1⟩
theorem clkTimes_len (p : PlanD) (th bk : List Int) (M : Int) (n nt nb : Nat) (a ta ba : Option Addr) (k b o kt kb bt bb ot ob : Nat) (F : Nat → Prop) (w : World) (h : RowAt Form.plan w F a n k b o p) (ht : IntsAt w ta nt kt bt ot th) (hb : IntsAt w ba nb kb bb ob bk)
    (hf : planFault M p = 0) (hbad : ¬ (nt = n ∧ nb = n)) :
    Calls Tryd.prog 28 #[.slice a n k, .int .i64 M, .slice ta nt kt, .slice ba nb kb] w fun e w' => e = .returned (.tuple #[.slice none 0 0, errV 2]) ∧ Below w.heap.size w w' := by
  have HF := Lib.hid hf
  have HL := Lib.hid h.len
  have hmx := h.max
  unfold maxLen at hmx
  have hmt := ht.max
  have hmb := hb.max
  unfold maxLen at hmt hmb
  have hn6 : 1 ≤ n ∧ n ≤ 6 := by
    by_cases hpb : planBad M p
    · rw [planFault_1 hpb] at hf; exact absurd hf (by decide)
    · unfold planBad at hpb; rw [HL.out] at hpb; omega
  obtain ⟨n1, n6⟩ := hn6
  have x0 : ∀ W : World, (Instr.index 89 (.agg #[.slice ta nt kt, .slice ba nb kb]) (.int .i64 0)).run Tryd.prog W = .ok (.slice ta nt kt) W := fun _ => by kernel_rfl
  have x1 : ∀ W : World, (Instr.index 89 (.agg #[.slice ta nt kt, .slice ba nb kb]) (.int .i64 1)).run Tryd.prog W = .ok (.slice ba nb kb) W := fun _ => by kernel_rfl
  clear hf
  by_cases g1 : nt = n
  · have g2 : ¬ nb = n := fun e => hbad ⟨g1, e⟩
    subst g1
    clear hbad
    go_enter Tryd.func28, Tryd.ntmps28
    go_wp2_with fail
    refine (planCheck_any p M _ nt k b o F _ h).mono ?_
    rintro e w1 ⟨rfl, hb1⟩
    rw [errV_nil HF.out]
    go_wp2
    go_loopw [36] (fun i wr => ∃ t : Int, (t = 0 ∨ t = 1) ∧ i = .int .i64 t ∧ wr = w1.drewN 0) (fun i _ => 2 - (intOf i).toNat)
    case atStart => exact ⟨0, Or.inl rfl, rfl, rfl⟩
    case round =>
      obtain ⟨t, ht2, rfl, rfl⟩ := hrel
      rcases ht2 with rfl | rfl
      · go_wp2_with fail
        refine (clkCosts_any _ nt _ nt _ (by unfold maxLen; omega) (by unfold maxLen; omega)).mono ?_
        rintro e w2 ⟨rfl, rfl⟩
        rw [if_pos rfl]
        go_wp2
        go_roundw
        case rel => exact ⟨1, by omega, by go_num, by trivial⟩
        case measure => simp [intOf]
      · go_wp2_with fail
        refine (clkCosts_any _ nb _ nt _ (by unfold maxLen; omega) (by unfold maxLen; omega)).mono ?_
        rintro e w2 ⟨rfl, rfl⟩
        rw [if_neg g2, errV_err (by decide)]
        go_wp2
        go_ret2
        exact ⟨by rw [errV_err (by decide)]; rfl, hb1⟩
  · clear hbad
    go_enter Tryd.func28, Tryd.ntmps28
    go_wp2_with fail
    refine (planCheck_any p M _ n k b o F _ h).mono ?_
    rintro e w1 ⟨rfl, hb1⟩
    rw [errV_nil HF.out]
    go_wp2
    go_loopw [36] (fun i wr => i = .int .i64 0 ∧ wr = w1.drewN 0) (fun i _ => 0)
    case atStart => exact ⟨rfl, rfl⟩
    case round =>
      obtain ⟨rfl, rfl⟩ := hrel
      go_wp2_with fail
      refine (clkCosts_any _ nt _ n _ (by unfold maxLen; omega) (by unfold maxLen; omega)).mono ?_
      rintro e w2 ⟨rfl, rfl⟩
      rw [if_neg g1, errV_err (by decide)]
      go_wp2
      go_ret2
      exact ⟨by rw [errV_err (by decide)]; rfl, hb1⟩
theorem clkTimes_rng (p : PlanD) (th bk : List Int) (M : Int) (n : Nat) (a ta ba : Option Addr) (k b o kt kb bt bb ot ob : Nat) (F : Nat → Prop) (w : World) (h : RowAt Form.plan w F a n k b o p) (ht : IntsAt w ta n kt bt ot th) (hb : IntsAt w ba n kb bb ob bk)
    (hf : planFault M p = 0) (hbad : ¬ (costOk th n ∧ costOk bk n)) :
    Calls Tryd.prog 28 #[.slice a n k, .int .i64 M, .slice ta n kt, .slice ba n kb] w fun e w' => e = .returned (.tuple #[.slice none 0 0, errV 1]) ∧ Below w.heap.size w w' := by
  have HF := Lib.hid hf
  have HL := Lib.hid h.len
  have hmx := h.max
  unfold maxLen at hmx
  have hmt := ht.max
  have hmb := hb.max
  unfold maxLen at hmt hmb
  have hn6 : 1 ≤ n ∧ n ≤ 6 := by
    by_cases hpb : planBad M p
    · rw [planFault_1 hpb] at hf; exact absurd hf (by decide)
    · unfold planBad at hpb; rw [HL.out] at hpb; omega
  obtain ⟨n1, n6⟩ := hn6
  have x0 : ∀ W : World, (Instr.index 89 (.agg #[.slice ta n kt, .slice ba n kb]) (.int .i64 0)).run Tryd.prog W = .ok (.slice ta n kt) W := fun _ => by kernel_rfl
  have x1 : ∀ W : World, (Instr.index 89 (.agg #[.slice ta n kt, .slice ba n kb]) (.int .i64 1)).run Tryd.prog W = .ok (.slice ba n kb) W := fun _ => by kernel_rfl
  clear hf
  go_enter Tryd.func28, Tryd.ntmps28
  go_wp2_with fail
  refine (planCheck_any p M _ n k b o F _ h).mono ?_
  rintro e w1 ⟨rfl, hb1⟩
  rw [errV_nil HF.out]
  replace ht := ht.keep hb1
  replace hb := hb.keep hb1
  go_wp2_with fail
  go_loopw [36] (fun i wr => ∃ t : Int, (t = 0 ∨ t = 1 ∨ t = 2) ∧ i = .int .i64 t ∧ wr = w1.drewN 0) (fun i _ => 2 - (intOf i).toNat)
  case atStart => exact ⟨0, Or.inl rfl, rfl, rfl⟩
  case round =>
    obtain ⟨t, ht2, rfl, rfl⟩ := hrel
    rcases ht2 with rfl | rfl | rfl
    · skip
      go_wp2_with fail
      refine (clkCosts_any _ n _ n _ (by unfold maxLen; omega) (by unfold maxLen; omega)).mono ?_
      rintro e w2 ⟨rfl, rfl⟩
      rw [if_pos rfl]
      go_wp2
      go_roundw
      case rel => exact ⟨1, by omega, by go_num, by trivial⟩
      case measure => simp [intOf]
    · skip
      go_wp2_with fail
      refine (clkCosts_any _ n _ n _ (by unfold maxLen; omega) (by unfold maxLen; omega)).mono ?_
      rintro e w2 ⟨rfl, rfl⟩
      rw [if_pos rfl]
      go_wp2
      go_roundw
      case rel => exact ⟨2, by omega, by go_num, by trivial⟩
      case measure => simp [intOf]
    · go_wp2
      go_loopw [50] (fun i wr => (i = .int .i64 0 ∨ (i = .int .i64 1 ∧ costOk th n)) ∧ wr = w1.drewN 0) (fun i _ => 2 - (intOf i).toNat)
      case atStart => exact ⟨Or.inl rfl, rfl⟩
      case round =>
        obtain ⟨ht2, rfl⟩ := hrel
        rcases ht2 with rfl | ⟨rfl, hth⟩
        · skip
          go_wp2
          go_loopw [55] (fun i wr => ∃ t : Nat, t ≤ n ∧ i = .int .i64 t ∧ wr = w1.drewN 0 ∧ costOk th t) (fun i _ => n - (intOf i).toNat)
          case atStart => exact ⟨0, Nat.zero_le _, rfl, rfl, fun i hi => absurd hi (Nat.not_lt_zero _)⟩
          case round =>
            obtain ⟨t, htn, rfl, rfl, hco⟩ := hrel
            by_cases hlt : t < n
            · have cx := ht.cell t hlt
              obtain rfl := ht.ptr (by omega)
              obtain ⟨x, hx⟩ : ∃ x, ix th t = x := ⟨_, rfl⟩
              rw [hx] at cx
              by_cases g1 : x < 1
              · clear hx
                go_wp2
                go_ret2
                exact ⟨by rw [errV_err (by decide)]; rfl, hb1⟩
              · by_cases g2 : x > 1000000
                · have e2 : (x < 1) = False := by simp; omega
                  clear hx g1
                  go_wp2
                  go_ret2
                  exact ⟨by rw [errV_err (by decide)]; rfl, hb1⟩
                · have e2 : (x < 1) = False := by simp; omega
                  have e3 : (x > 1000000) = False := by simp; omega
                  have HCO : costOk th (t + 1) := fun i hi => by
                    rcases Nat.lt_or_ge i t with h1 | h1
                    · exact hco i h1
                    · obtain rfl : i = t := by omega
                      rw [hx]; omega
                  clear hx g1 g2
                  go_wp2
                  go_roundw
                  case rel => exact ⟨t + 1, by omega, by go_num, by trivial, HCO⟩
                  case measure => simp [intOf]; omega
            · obtain rfl : n = t := by omega
              (go_wp2; go_roundw; (case rel => exact ⟨Or.inr ⟨by go_num, hco⟩, by trivial⟩); (case measure => simp [intOf]))
        · skip
          go_wp2
          go_loopw [55] (fun i wr => ∃ t : Nat, t ≤ n ∧ i = .int .i64 t ∧ wr = w1.drewN 0 ∧ costOk bk t) (fun i _ => n - (intOf i).toNat)
          case atStart => exact ⟨0, Nat.zero_le _, rfl, rfl, fun i hi => absurd hi (Nat.not_lt_zero _)⟩
          case round =>
            obtain ⟨t, htn, rfl, rfl, hco⟩ := hrel
            by_cases hlt : t < n
            · have cx := hb.cell t hlt
              obtain rfl := hb.ptr (by omega)
              obtain ⟨x, hx⟩ : ∃ x, ix bk t = x := ⟨_, rfl⟩
              rw [hx] at cx
              by_cases g1 : x < 1
              · clear hx
                go_wp2
                go_ret2
                exact ⟨by rw [errV_err (by decide)]; rfl, hb1⟩
              · by_cases g2 : x > 1000000
                · have e2 : (x < 1) = False := by simp; omega
                  clear hx g1
                  go_wp2
                  go_ret2
                  exact ⟨by rw [errV_err (by decide)]; rfl, hb1⟩
                · have e2 : (x < 1) = False := by simp; omega
                  have e3 : (x > 1000000) = False := by simp; omega
                  have HCO : costOk bk (t + 1) := fun i hi => by
                    rcases Nat.lt_or_ge i t with h1 | h1
                    · exact hco i h1
                    · obtain rfl : i = t := by omega
                      rw [hx]; omega
                  clear hx g1 g2
                  go_wp2
                  go_roundw
                  case rel => exact ⟨t + 1, by omega, by go_num, by trivial, HCO⟩
                  case measure => simp [intOf]; omega
            · obtain rfl : n = t := by omega
              exact absurd ⟨hth, hco⟩ hbad
end Go.Proofs.YtjaepdkeldgikaaDoor
