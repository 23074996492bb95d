/- Contracts of the reference: EndsFault, CostsFault, CostOf, dearest. -/
import Derived.Test.YtjaepdkeldgikaaDoorCut6
import Derived.Test.YtjaepdkeldgikaaDoorSameI
set_option linter.unusedVariables false
set_option linter.unusedSimpArgs false
set_option linter.unusedSectionVars false
namespace Gal
theorem ends_bad {xs : List Int} {m : Int} {t : Nat} (h : ¬ (m < 1 ∨ 12 < m)) (h2 : ¬ (xs.length = 0 ∨ 6 < xs.length)) (ht : t < xs.length) (hx : ix xs t ≤ wasAt xs t) : endsFault xs m = 5 :=
  endsFault_5 h h2 fun h3 => by have := h3.1 t ht; omega
theorem rises_next {xs : List Int} {t : Nat} (h : rises xs t) (h1 : wasAt xs t < ix xs t) : rises xs (t + 1) := fun j hj => by
  rcases Nat.lt_or_ge j t with h6 | h6
  · exact h j h6
  · obtain rfl : j = t := by omega
    exact h1
end Gal
namespace Go.Proofs.YtjaepdkeldgikaaDoor
open Go.RowKit Gal
set_option maxRecDepth 100000
set_option maxHeartbeats 2000000
theorem refCosts_any (xs : List Int) (a : Option Addr) (n k b o : Nat) (w : World) (h : IntsAt w a n k b o xs) : Calls Tryd.prog 23 #[.slice a n k] w fun e w' => e = .returned (.int .i64 (costsFault xs)) ∧ w = w' := by
  have hl := h.len
  have hmx := h.max
  unfold maxLen at hmx
  have HL := Lib.hid hl
  clear hl
  go_enter Tryd.func23, Tryd.ntmps23
  go_wp2
  go_loop [3] (fun i => ∃ t : Nat, t ≤ n ∧ i = .int .i64 t ∧ costsTo xs t) (fun i => n - (intOf i).toNat)
  case atStart => exact ⟨0, Nat.zero_le _, rfl, trivial⟩
  case round =>
    obtain ⟨t, ht, rfl, hpre⟩ := hrel
    have HP := Lib.hid hpre
    clear hpre
    by_cases hlt : t < n
    · obtain rfl := h.ptr (by omega)
      have hc := h.cell t hlt
      by_cases h1 : 0 ≤ ix xs t ∧ ix xs t ≤ 1000000
      · obtain ⟨g1, g2⟩ := h1
        have g3 : (ix xs t < 0) = False := by simp; omega
        have g4 : (ix xs t > 1000000) = False := by simp; omega
        have H1 := Lib.hid (And.intro g1 g2)
        clear g1 g2
        go_wp2
        go_round
        case rel => exact ⟨t + 1, by omega, by go_num, ⟨HP.out, H1.out⟩⟩
        case measure => simp [intOf]; omega
      · have hF : costsFault xs = 1 := by unfold costsFault; rw [if_neg]; exact fun h2 => h1 (costsTo_iff.1 h2 t (by rw [HL.out]; exact hlt))
        have HF := Lib.hid hF
        by_cases g1 : ix xs t < 0
        · clear h1 hF
          go_wp2
          go_ret
          exact ⟨by rw [HF.out]; rfl, rfl⟩
        · have g2 : (ix xs t < 0) = False := by simp; omega
          have g3 : ix xs t > 1000000 := by omega
          clear h1 hF g1
          go_wp2
          go_ret
          exact ⟨by rw [HF.out]; rfl, rfl⟩
    · obtain rfl : t = n := by omega
      have hF : costsFault xs = 0 := by unfold costsFault; rw [if_pos (by rw [HL.out]; exact HP.out)]
      have HF := Lib.hid hF
      clear hF
      go_wp2
      go_ret
      exact ⟨by rw [HF.out]; rfl, rfl⟩
theorem refEnds_any (xs : List Int) (m : Int) (a : Option Addr) (n k b o : Nat) (w : World) (h : IntsAt w a n k b o xs) : Calls Tryd.prog 21 #[.slice a n k, .int .i64 m] w fun e w' => e = .returned (.int .i64 (endsFault xs m)) ∧ ∃ q, w' = w.drewN q := by
  have hl := h.len
  have hmx := h.max
  unfold maxLen at hmx
  by_cases h1 : m < 1 ∨ 12 < m
  · have HF := Lib.hid (endsFault_1 (xs := xs) h1)
    rcases h1 with h1 | h1
    · clear hl hmx
      go_enter Tryd.func21, Tryd.ntmps21
      go_wp2
      go_ret
      exact ⟨by rw [HF.out]; rfl, (by first | exact ⟨0, rfl⟩ | exact ⟨_, rfl⟩ | exact ⟨_, World.drewN_drewN _ _ _⟩)⟩
    · have g1 : (m < 1) = False := by simp; omega
      have g2 : m > 12 := h1
      clear hl hmx h1
      go_enter Tryd.func21, Tryd.ntmps21
      go_wp2
      go_ret
      exact ⟨by rw [HF.out]; rfl, (by first | exact ⟨0, rfl⟩ | exact ⟨_, rfl⟩ | exact ⟨_, World.drewN_drewN _ _ _⟩)⟩
  · have g1 : (m < 1) = False := by simp; omega
    have g2 : (m > 12) = False := by simp; omega
    by_cases h2 : n = 0 ∨ 6 < n
    · have HF := Lib.hid (endsFault_2 h1 (show xs.length = 0 ∨ 6 < xs.length by omega))
      rcases h2 with h2 | h2
      · have g3 : ((n : Int) == 0) = true := by simp [h2]
        clear hl hmx h1 h2
        go_enter Tryd.func21, Tryd.ntmps21
        go_wp2
        go_ret
        exact ⟨by rw [HF.out]; rfl, (by first | exact ⟨0, rfl⟩ | exact ⟨_, rfl⟩ | exact ⟨_, World.drewN_drewN _ _ _⟩)⟩
      · have g3 : ((n : Int) == 0) = false := by simp; omega
        have g4 : (n : Int) > 6 := by omega
        clear hl hmx h1 h2
        go_enter Tryd.func21, Tryd.ntmps21
        go_wp2
        go_ret
        exact ⟨by rw [HF.out]; rfl, (by first | exact ⟨0, rfl⟩ | exact ⟨_, rfl⟩ | exact ⟨_, World.drewN_drewN _ _ _⟩)⟩
    · have g3 : ((n : Int) == 0) = false := by simp; omega
      have g4 : ((n : Int) > 6) = False := by simp; omega
      have H1 := Lib.hid h1
      have H2 : Hid (¬ (xs.length = 0 ∨ 6 < xs.length)) := Lib.hid (by omega)
      have HL := Lib.hid hl
      obtain rfl := h.ptr (by omega)
      obtain ⟨n0, n1⟩ : 1 ≤ n ∧ n ≤ 6 := by omega
      clear hl h1 h2 hmx
      go_enter Tryd.func21, Tryd.ntmps21
      go_wp2
      go_loopw [5] (fun i wr => ∃ t m : Nat, t ≤ n ∧ i = .int .i64 t ∧ rises xs t ∧ wr = w.drewN m) (fun i _ => n - (intOf i).toNat)
      case atStart => exact ⟨0, 0, Nat.zero_le _, rfl, fun t ht => absurd ht (Nat.not_lt_zero _), rfl⟩
      case round =>
        obtain ⟨t, q, ht, rfl, hpre, rfl⟩ := hrel
        have HP := Lib.hid hpre
        clear hpre
        by_cases hlt : t < n
        · have hc := h.cell t hlt
          have ht0 : (0 : Int) ≤ (t : Int) := by omega
          have ht1 : (t : Int) < (n : Int) := by omega
          obtain ⟨x0, hx0⟩ : ∃ x0, ix xs t = x0 := ⟨_, rfl⟩
          rw [hx0] at hc
          have HX := Lib.hid hx0
          clear hx0
          by_cases hx : x0 < 1
          · have HF := Lib.hid (ends_bad H1.out H2.out (show t < xs.length by rw [HL.out]; exact hlt) (by rw [HX.out]; have := wasAt_nn HP.out (Nat.le_refl t); omega))
            have e1 : decide (x0 < 1) = true := decide_eq_true hx
            go_wp2
            go_quiet (fail)
            go_wp2
            go_ret
            exact ⟨by rw [HF.out]; rfl, (by first | exact ⟨0, rfl⟩ | exact ⟨_, rfl⟩ | exact ⟨_, World.drewN_drewN _ _ _⟩)⟩
          · have e1 : decide (x0 < 1) = false := decide_eq_false hx
            have e2 : (x0 < 1) = False := by simp; omega
            cases t with
            | zero =>
              have hup : wasAt xs 0 < ix xs 0 := by rw [HX.out]; show (0 : Int) < x0; omega
              have HU := Lib.hid (rises_next HP.out hup)
              clear hup hx
              rw [Nat.add_zero] at hc
              go_wp2
              go_quiet (fail)
              go_wp2
              go_roundw
              case rel => exact ⟨1, _, by omega, by go_num, HU.out, (by first | rfl | exact World.drewN_drewN _ _ _)⟩
              case measure => simp [intOf]; omega
            | succ p =>
              have hcp := h.cell p (by omega)
              obtain ⟨y0, hy0⟩ : ∃ y0, ix xs p = y0 := ⟨_, rfl⟩
              rw [hy0] at hcp
              have HY : Hid (wasAt xs (p + 1) = y0) := Lib.hid hy0
              clear hy0
              have hpw : IntKind.i64.wrap ((p : Int) + 1 - 1) = (p : Int) := by rw [show (p : Int) + 1 - 1 = (p : Int) by omega]; exact IntWalk.i64_in _ (by omega)
              have hp0 : (0 : Int) ≤ (p : Int) := by omega
              have hp1 : (p : Int) < (n : Int) := by omega
              have e3 : ((p : Int) + 1 > 0) = True := by simp <;> omega
              by_cases hle : x0 ≤ y0
              · have HF := Lib.hid (ends_bad H1.out H2.out (show p + 1 < xs.length by rw [HL.out]; exact hlt) (by rw [HX.out, HY.out]; exact hle))
                clear hx
                go_wp2
                go_quiet (fail)
                go_wp2
                go_ret
                exact ⟨by rw [HF.out]; rfl, (by first | exact ⟨0, rfl⟩ | exact ⟨_, rfl⟩ | exact ⟨_, World.drewN_drewN _ _ _⟩)⟩
              · have hup : wasAt xs (p + 1) < ix xs (p + 1) := by rw [HX.out, HY.out]; omega
                have HU := Lib.hid (rises_next HP.out hup)
                have e4 : (x0 ≤ y0) = False := by simp; omega
                clear hup hx hle
                go_wp2
                go_quiet (fail)
                go_wp2
                go_roundw
                case rel => exact ⟨p + 2, _, by omega, by go_num, HU.out, (by first | rfl | exact World.drewN_drewN _ _ _)⟩
                case measure => simp [intOf]; omega
        · obtain rfl : n = t := by omega
          obtain ⟨p, rfl⟩ : ∃ p, n = p + 1 := ⟨n - 1, by omega⟩
          have hcp := h.cell p (by omega)
          obtain ⟨y0, hy0⟩ : ∃ y0, ix xs p = y0 := ⟨_, rfl⟩
          rw [hy0] at hcp
          have HY : Hid (wasAt xs (p + 1) = y0) := Lib.hid hy0
          clear hy0
          by_cases hm : y0 = m
          · have HF := Lib.hid (endsFault_0 H1.out H2.out (by rw [HL.out, HY.out]; exact ⟨HP.out, hm⟩))
            have g6 : (y0 != m) = false := by simp [hm]
            clear hm
            go_wp2
            go_ret
            exact ⟨by rw [HF.out]; rfl, (by first | exact ⟨0, rfl⟩ | exact ⟨_, rfl⟩ | exact ⟨_, World.drewN_drewN _ _ _⟩)⟩
          · have HF := Lib.hid (endsFault_5 H1.out H2.out (fun h3 => hm (by rw [HL.out, HY.out] at h3; exact h3.2)))
            have g6 : (y0 != m) = true := by simp [hm]
            clear hm
            go_wp2
            go_ret
            exact ⟨by rw [HF.out]; rfl, (by first | exact ⟨0, rfl⟩ | exact ⟨_, rfl⟩ | exact ⟨_, World.drewN_drewN _ _ _⟩)⟩
theorem refDear_any (xs : List Int) (a : Option Addr) (n k b o : Nat) (w : World) (h : IntsAt w a n k b o xs) (hx : ∀ j, 0 ≤ ix xs j) : Calls Tryd.prog 51 #[.slice a n k] w fun e w' => e = .returned (.int .i64 (dear xs)) ∧ w = w' := by
  have hl := h.len
  have hmx := h.max
  unfold maxLen at hmx
  have HL := Lib.hid hl
  have HX := Lib.hid hx
  clear hl hx
  go_enter Tryd.func51, Tryd.ntmps51
  go_wp2
  go_loop [3, 4] (fun v i => ∃ t : Nat, t ≤ n ∧ i = .int .i64 t ∧ v = .int .i64 (dear (xs.take t))) (fun _ i => n - (intOf i).toNat)
  case atStart => exact ⟨0, Nat.zero_le _, rfl, rfl⟩
  case round =>
    obtain ⟨t, ht, rfl, rfl⟩ := hrel
    by_cases hlt : t < n
    · obtain rfl := h.ptr (by omega)
      have hc := h.cell t hlt
      obtain ⟨c0, hc0⟩ : ∃ c0, ix xs t = c0 := ⟨_, rfl⟩
      obtain ⟨d0, hd0⟩ : ∃ d0, dear (xs.take t) = d0 := ⟨_, rfl⟩
      have hx1 := HX.out t
      rw [hc0] at hc hx1
      rw [hd0]
      have HC := Lib.hid hc0
      have HD := Lib.hid hd0
      clear hc0 hd0
      by_cases hgt : d0 < c0
      · have HG := Lib.hid hgt
        have g1 : c0 > d0 := hgt
        clear hgt
        go_wp2
        go_round
        case rel => exact ⟨t + 1, by omega, by go_num, by rw [dear_next (by rw [HL.out]; exact hlt) (by rw [HC.out]; exact hx1), HC.out, HD.out, if_pos HG.out]⟩
        case measure => simp [intOf]; omega
      · have HG := Lib.hid hgt
        have g1 : (c0 > d0) = False := by simp; omega
        clear hgt
        go_wp2
        go_round
        case rel => exact ⟨t + 1, by omega, by go_num, by rw [dear_next (by rw [HL.out]; exact hlt) (by rw [HC.out]; exact hx1), HC.out, HD.out, if_neg HG.out]⟩
        case measure => simp [intOf]; omega
    · obtain rfl : n = t := by omega
      rw [List.take_of_length_le (by rw [HL.out]; exact Nat.le_refl _)]
      go_wp2
      go_ret
      exact ⟨rfl, rfl⟩
end Go.Proofs.YtjaepdkeldgikaaDoor
