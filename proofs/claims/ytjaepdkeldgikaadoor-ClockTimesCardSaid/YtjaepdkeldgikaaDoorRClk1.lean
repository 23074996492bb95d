/- The reference's TimesFault, Spans. -/
import Derived.Test.YtjaepdkeldgikaaDoorRPlan4
import Derived.Test.YtjaepdkeldgikaaDoorClk5
import Derived.Laws.StructEq
import Derived.BigQuiet
set_option linter.unusedVariables false
set_option linter.unusedSimpArgs false
set_option linter.unusedSectionVars false
set_option maxRecDepth 100000
namespace Gal
theorem timesFault_plan {M : Int} {p : PlanD} {th bk : List Int} (h : planFault M p ≠ 0) : timesFault M p th bk = planFault M p := if_pos h
theorem timesFault_len {M : Int} {p : PlanD} {th bk : List Int} (h : planFault M p = 0) (h2 : ¬ (th.length = p.length ∧ bk.length = p.length)) : timesFault M p th bk = 2 := by
  unfold timesFault; rw [if_neg (fun hh => hh h), if_pos h2]
theorem timesFault_rng {M : Int} {p : PlanD} {th bk : List Int} (h : planFault M p = 0) (h2 : th.length = p.length ∧ bk.length = p.length) (h3 : ¬ (costOk th p.length ∧ costOk bk p.length)) : timesFault M p th bk = 1 := by
  unfold timesFault; rw [if_neg (fun hh => hh h), if_neg (fun hh => hh h2), if_pos h3]
theorem timesFault_ok {M : Int} {p : PlanD} {th bk : List Int} (h : planFault M p = 0) (h2 : th.length = p.length ∧ bk.length = p.length) (h3 : costOk th p.length ∧ costOk bk p.length) : timesFault M p th bk = 0 := by
  unfold timesFault; rw [if_neg (fun hh => hh h), if_neg (fun hh => hh h2), if_neg (fun hh => hh h3)]
theorem costOk_next {l : List Int} {t : Nat} (h : costOk l t) (h1 : 1 ≤ ix l t ∧ ix l t ≤ 1000000) : costOk l (t + 1) := fun i hi => by
  rcases Nat.lt_or_ge i t with h2 | h2
  · exact h i h2
  · obtain rfl : i = t := by omega
    exact h1
end Gal
namespace Go.Proofs.YtjaepdkeldgikaaDoor
open Go.RowKit Gal Go.Maps
set_option maxHeartbeats 4000000
theorem span_neq (x0 x1 y0 y1 : Int) (W : World) : (binOp .neq 65 (.agg #[.int .i64 x0, .int .i64 x1]) (.agg #[.int .i64 y0, .int .i64 y1])).run Tryd.prog W = .ok (.bool (!(x0 == y0 && x1 == y1))) W := by
  rw [run_neq_struct, run_equalIn_agg W _ _ _ _ (by kernel_rfl) (by kernel_rfl)]
  simp only [Program.fieldsOf, Tryd.underlying65]
  have hi := Tryd.underlying3
  have c0 : Tryd.prog.cellsOf 3 = 1 := by kernel_rfl
  by_cases h0 : x0 = y0 <;> by_cases h1 : x1 = y1 <;> simp [go_sem, Op.eqFields, hi, part, c0, h0, h1]
theorem refTimesFault_any (p : PlanD) (th bk : List Int) (M : Int) (a ta ba : Option Addr) (n k b o nt kt nb kb bt bb ot ob : Nat) (F : Nat → Prop) (w : World) (h : RowAt Form.plan w F a n k b o p) (ht : IntsAt w ta nt kt bt ot th) (hb : IntsAt w ba nb kb bb ob bk) :
    Calls Tryd.prog 29 #[.slice a n k, .int .i64 M, .slice ta nt kt, .slice ba nb kb] w fun e w' => e = .returned (.int .i64 (timesFault M p th bk)) ∧ Below w.heap.size w w' := by
  have hmt := ht.max
  have hmb := hb.max
  have hmx := h.max
  unfold maxLen at hmt hmb hmx
  by_cases hf : planFault M p = 0
  · have HF := Lib.hid hf
    by_cases hl : nt = n ∧ nb = n
    · have HL2 : Hid (th.length = p.length ∧ bk.length = p.length) := Lib.hid (by rw [ht.len, hb.len, h.len]; exact hl)
      have hnn : Hid (p.length = n) := Lib.hid h.len
      obtain ⟨hl1, hl2⟩ := hl
      subst hl1
      subst hl2
      obtain ⟨n, rfl⟩ : ∃ n, n = nb := ⟨_, rfl⟩
      clear hf
      go_enter Tryd.func29, Tryd.ntmps29
      go_wp2_with fail
      refine (refPlanFault_any p M a n k b o F _ h).mono ?_
      rintro e w1 ⟨rfl, hb1⟩
      rw [HF.out]
      replace ht := ht.keep hb1
      replace hb := hb.keep hb1
      have e1 : ((n : Int) != (n : Int)) = false := by simp
      go_wp2
      go_loopw [10] (fun i wr => ∃ (t q : Nat), t ≤ n ∧ i = .int .i64 t ∧ wr = w1.drewN q ∧ Hid (costOk th t ∧ costOk bk t)) (fun i _ => n - (intOf i).toNat)
      case atStart => exact ⟨0, 0, Nat.zero_le _, rfl, rfl, Lib.hid ⟨fun i hi => absurd hi (Nat.not_lt_zero _), fun i hi => absurd hi (Nat.not_lt_zero _)⟩⟩
      case round =>
        obtain ⟨t, q, htn, rfl, rfl, hco⟩ := hrel
        by_cases hlt : t < n
        · have cx := ht.cell t hlt
          have cy := hb.cell t hlt
          obtain rfl := ht.ptr (by omega)
          obtain rfl := hb.ptr (by omega)
          obtain ⟨x, hx⟩ : ∃ x, ix th t = x := ⟨_, rfl⟩
          obtain ⟨y, hy⟩ : ∃ y, ix bk t = y := ⟨_, rfl⟩
          rw [hx] at cx
          rw [hy] at cy
          have s0 : (0 : Int) ≤ (t : Int) := by omega
          have s1 : (t : Int) < (n : Int) := by omega
          by_cases g1 : x < 1
          · skip
            have HR : Hid (timesFault M p th bk = 1) := Lib.hid (timesFault_rng HF.out HL2.out fun hc => (by have := hc.1 t (by rw [hnn.out]; exact hlt); rw [hx] at this; omega))
            clear hx hy
            go_wp2
            try (go_quiet (fail))
            try go_wp2
            go_ret
            exact ⟨by rw [HR.out]; rfl, (by repeat (first | fail | (with_reducible exact Below.refl _ _) | (with_reducible refine Below.al ?_ _) | (with_reducible refine Below.drN ?_ _) | (with_reducible refine Below.drew ?_) | (with_reducible refine Below.st ?_ ?_ _; rotate_left 1; (first | (dsimp only; omega) | omega | (simp; omega) | simp)) | (with_reducible refine Below.go ?_ hb1) | exact Below.refl _ _))⟩
          · have e2 : (x < 1) = False := by simp; omega
            by_cases g2 : x > 1000000
            · clear g1
              have HR : Hid (timesFault M p th bk = 1) := Lib.hid (timesFault_rng HF.out HL2.out fun hc => (by have := hc.1 t (by rw [hnn.out]; exact hlt); rw [hx] at this; omega))
              clear hx hy
              go_wp2
              try (go_quiet (fail))
              try go_wp2
              go_ret
              exact ⟨by rw [HR.out]; rfl, (by repeat (first | fail | (with_reducible exact Below.refl _ _) | (with_reducible refine Below.al ?_ _) | (with_reducible refine Below.drN ?_ _) | (with_reducible refine Below.drew ?_) | (with_reducible refine Below.st ?_ ?_ _; rotate_left 1; (first | (dsimp only; omega) | omega | (simp; omega) | simp)) | (with_reducible refine Below.go ?_ hb1) | exact Below.refl _ _))⟩
            · have e3 : (x > 1000000) = False := by simp; omega
              by_cases g3 : y < 1
              · clear g1 g2
                have HR : Hid (timesFault M p th bk = 1) := Lib.hid (timesFault_rng HF.out HL2.out fun hc => (by have := hc.2 t (by rw [hnn.out]; exact hlt); rw [hy] at this; omega))
                clear hx hy
                go_wp2
                try (go_quiet (fail))
                try go_wp2
                go_ret
                exact ⟨by rw [HR.out]; rfl, (by repeat (first | fail | (with_reducible exact Below.refl _ _) | (with_reducible refine Below.al ?_ _) | (with_reducible refine Below.drN ?_ _) | (with_reducible refine Below.drew ?_) | (with_reducible refine Below.st ?_ ?_ _; rotate_left 1; (first | (dsimp only; omega) | omega | (simp; omega) | simp)) | (with_reducible refine Below.go ?_ hb1) | exact Below.refl _ _))⟩
              · have e4 : (y < 1) = False := by simp; omega
                by_cases g4 : y > 1000000
                · clear g1 g2 g3
                  have HR : Hid (timesFault M p th bk = 1) := Lib.hid (timesFault_rng HF.out HL2.out fun hc => (by have := hc.2 t (by rw [hnn.out]; exact hlt); rw [hy] at this; omega))
                  clear hx hy
                  go_wp2
                  try (go_quiet (fail))
                  try go_wp2
                  go_ret
                  exact ⟨by rw [HR.out]; rfl, (by repeat (first | fail | (with_reducible exact Below.refl _ _) | (with_reducible refine Below.al ?_ _) | (with_reducible refine Below.drN ?_ _) | (with_reducible refine Below.drew ?_) | (with_reducible refine Below.st ?_ ?_ _; rotate_left 1; (first | (dsimp only; omega) | omega | (simp; omega) | simp)) | (with_reducible refine Below.go ?_ hb1) | exact Below.refl _ _))⟩
                · have e5 : (y > 1000000) = False := by simp; omega
                  have HCO : Hid (costOk th (t + 1) ∧ costOk bk (t + 1)) := Lib.hid ⟨costOk_next hco.out.1 (by rw [hx]; omega), costOk_next hco.out.2 (by rw [hy]; omega)⟩
                  clear g1 g2 g3 g4 hx hy
                  go_wp2
                  try (go_quiet (fail))
                  try go_wp2
                  go_roundw
                  case rel => exact ⟨t + 1, _, by omega, by go_num, (by first | rfl | exact World.drewN_drewN _ _ _), HCO⟩
                  case measure => simp [intOf]; omega
        · obtain rfl : n = t := by omega
          have HR : Hid (timesFault M p th bk = 0) := Lib.hid (timesFault_ok HF.out HL2.out (by rw [hnn.out]; exact hco.out))
          go_wp2
          go_ret
          exact ⟨by rw [HR.out]; rfl, (by repeat (first | fail | (with_reducible exact Below.refl _ _) | (with_reducible refine Below.al ?_ _) | (with_reducible refine Below.drN ?_ _) | (with_reducible refine Below.drew ?_) | (with_reducible refine Below.st ?_ ?_ _; rotate_left 1; (first | (dsimp only; omega) | omega | (simp; omega) | simp)) | (with_reducible refine Below.go ?_ hb1) | exact Below.refl _ _))⟩
    · have HR : Hid (timesFault M p th bk = 2) := Lib.hid (timesFault_len hf (by rw [ht.len, hb.len, h.len]; exact hl))
      clear hf
      go_enter Tryd.func29, Tryd.ntmps29
      go_wp2_with fail
      refine (refPlanFault_any p M a n k b o F _ h).mono ?_
      rintro e w1 ⟨rfl, hb1⟩
      rw [HF.out]
      by_cases g1 : nt = n
      · have g2 : ¬ nb = n := fun e => hl ⟨g1, e⟩
        have e1 : ((nt : Int) != (n : Int)) = false := by simp [g1]
        have e2 : ((nb : Int) != (n : Int)) = true := by simp; omega
        clear g1 g2 hl
        go_wp2
        go_ret
        exact ⟨by rw [HR.out]; rfl, (by repeat (first | fail | (with_reducible exact Below.refl _ _) | (with_reducible refine Below.al ?_ _) | (with_reducible refine Below.drN ?_ _) | (with_reducible refine Below.drew ?_) | (with_reducible refine Below.st ?_ ?_ _; rotate_left 1; (first | (dsimp only; omega) | omega | (simp; omega) | simp)) | (with_reducible refine Below.go ?_ hb1) | exact Below.refl _ _))⟩
      · have e1 : ((nt : Int) != (n : Int)) = true := by simp; omega
        clear g1 hl
        go_wp2
        go_ret
        exact ⟨by rw [HR.out]; rfl, (by repeat (first | fail | (with_reducible exact Below.refl _ _) | (with_reducible refine Below.al ?_ _) | (with_reducible refine Below.drN ?_ _) | (with_reducible refine Below.drew ?_) | (with_reducible refine Below.st ?_ ?_ _; rotate_left 1; (first | (dsimp only; omega) | omega | (simp; omega) | simp)) | (with_reducible refine Below.go ?_ hb1) | exact Below.refl _ _))⟩
  · have HR : Hid (timesFault M p th bk = planFault M p) := Lib.hid (timesFault_plan hf)
    obtain ⟨V, hV⟩ : ∃ V, planFault M p = V := ⟨_, rfl⟩
    rw [hV] at hf
    have HV := Lib.hid hV
    have e1 : (V != 0) = true := by simp [hf]
    clear hf hV
    go_enter Tryd.func29, Tryd.ntmps29
    go_wp2_with fail
    refine (refPlanFault_any p M a n k b o F _ h).mono ?_
    rintro e w1 ⟨rfl, hb1⟩
    rw [HV.out]
    go_wp2
    go_ret
    exact ⟨by rw [HR.out, HV.out]; rfl, (by repeat (first | fail | (with_reducible exact Below.refl _ _) | (with_reducible refine Below.al ?_ _) | (with_reducible refine Below.drN ?_ _) | (with_reducible refine Below.drew ?_) | (with_reducible refine Below.st ?_ ?_ _; rotate_left 1; (first | (dsimp only; omega) | omega | (simp; omega) | simp)) | (with_reducible refine Below.go ?_ hb1) | exact Below.refl _ _))⟩
theorem refSpans_same (q : List (List SpanD)) (a a' : Option Addr) (n k b o k' b' o' : Nat) (F F' : Nat → Prop) (w : World) (h : RowAt Form.plan w F a n k b o q) (h' : RowAt Form.plan w F' a' n k' b' o' q) :
    Calls Tryd.prog 31 #[.slice a n k, .slice a' n k'] w fun e w' => e = .returned (.bool true) ∧ Below w.heap.size w w' := by
  have hmx := h.max
  unfold maxLen at hmx
  have e1 : ((n : Int) != (n : Int)) = false := by simp
  go_enter Tryd.func31, Tryd.ntmps31
  go_wp2
  go_loopw [5] (fun i wr => ∃ (t nq : Nat), t ≤ n ∧ i = .int .i64 t ∧ wr = w.drewN nq) (fun i _ => n - (intOf i).toNat)
  case atStart => exact ⟨0, 0, Nat.zero_le _, rfl, rfl⟩
  case round =>
    obtain ⟨t, nq, htn, rfl, rfl⟩ := hrel
    by_cases hlt : t < n
    · obtain rfl := h.ptr (by omega)
      obtain rfl := h'.ptr (by omega)
      obtain ⟨a1, n1, k1, b1, o1, c1, hr1⟩ := plan_cell h hlt
      obtain ⟨a2, n2, k2, b2, o2, c2, hr2⟩ := plan_cell h' hlt
      have HL1 := Lib.hid hr1.len
      obtain rfl : n1 = n2 := by rw [← hr2.len, ← hr1.len]
      have hmx1 := hr1.max
      unfold maxLen at hmx1
      have s0 : (0 : Int) ≤ (t : Int) := by omega
      have s1 : (t : Int) < (n : Int) := by omega
      have e2 : ((n1 : Int) != (n1 : Int)) = false := by simp
      go_wp2
      go_quiet (fail)
      go_wp2
      go_loopw [6] (fun i wr => ∃ (j nr : Nat), j ≤ n1 ∧ i = .int .i64 j ∧ wr = w.drewN nr) (fun i _ => n1 - (intOf i).toNat)
      case atStart => exact ⟨0, _, Nat.zero_le _, rfl, by first | rfl | exact World.drewN_drewN _ _ _⟩
      case round =>
        obtain ⟨j, nr, hjn, rfl, rfl⟩ := hrel
        by_cases hlt2 : j < n1
        · obtain rfl := hr1.ptr (by omega)
          obtain rfl := hr2.ptr (by omega)
          obtain ⟨d0, d1⟩ := act_cells hr1 hlt2
          obtain ⟨d2, d3⟩ := act_cells hr2 hlt2
          obtain ⟨⟨x0, x1⟩, hx⟩ : ∃ x, ax (px q t) j = x := ⟨_, rfl⟩
          rw [hx] at d0 d1 d2 d3
          dsimp only at d0 d1 d2 d3
          have heqv : ∀ W : World, (binOp .neq 65 (.agg #[.int .i64 x0, .int .i64 x1]) (.agg #[.int .i64 x0, .int .i64 x1])).run Tryd.prog W = .ok (.bool false) W := fun W => by rw [span_neq]; simp
          have j0 : (0 : Int) ≤ (j : Int) := by omega
          have j1 : (j : Int) < (n1 : Int) := by omega
          clear hx
          go_wp2
          go_quiet (fail)
          go_wp2
          go_roundw
          case rel => exact ⟨j + 1, _, by omega, by go_num, (by first | rfl | exact World.drewN_drewN _ _ _)⟩
          case measure => simp [intOf]; omega
        · obtain rfl : n1 = j := by omega
          go_wp2
          go_roundw
          case rel => exact ⟨t + 1, _, by omega, by go_num, (by first | rfl | exact World.drewN_drewN _ _ _)⟩
          case measure => simp [intOf]; omega
    · obtain rfl : n = t := by omega
      go_wp2
      go_ret
      exact ⟨rfl, (by repeat (first | fail | (with_reducible exact Below.refl _ _) | (with_reducible refine Below.al ?_ _) | (with_reducible refine Below.drN ?_ _) | (with_reducible refine Below.drew ?_) | (with_reducible refine Below.st ?_ ?_ _; rotate_left 1; (first | (dsimp only; omega) | omega | (simp; omega) | simp)) | exact Below.refl _ _))⟩
end Go.Proofs.YtjaepdkeldgikaaDoor
