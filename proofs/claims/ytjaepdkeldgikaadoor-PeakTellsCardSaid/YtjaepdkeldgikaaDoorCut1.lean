/- Contracts of package cut: costly, Check. -/
import Derived.Test.YtjaepdkeldgikaaDoorErrV
import Derived.Test.YtjaepdkeldgikaaDoorBaseR
import Derived.Test.YtjaepdkeldgikaaDoorPCut5
set_option linter.unusedVariables false
set_option linter.unusedSimpArgs false
set_option linter.unusedSectionVars false
namespace Gal
/-- what is wrong with costs -/
def costsTo (xs : List Int) : Nat → Prop
  | 0 => True
  | k + 1 => costsTo xs k ∧ 0 ≤ ix xs k ∧ ix xs k ≤ 1000000
theorem costsTo_iff {xs : List Int} : ∀ {n : Nat}, costsTo xs n ↔ ∀ k, k < n → 0 ≤ ix xs k ∧ ix xs k ≤ 1000000
  | 0 => ⟨fun _ k hk => absurd hk (Nat.not_lt_zero _), fun _ => trivial⟩
  | n + 1 => ⟨fun h k hk => by
      rcases Nat.lt_or_ge k n with h1 | h1
      · exact costsTo_iff.1 h.1 k h1
      · obtain rfl : k = n := by omega
        exact h.2, fun h => ⟨costsTo_iff.2 fun k hk => h k (by omega), h n (by omega)⟩⟩
instance (xs : List Int) (n : Nat) : Decidable (costsTo xs n) := decidable_of_iff (∀ k, k < n → 0 ≤ ix xs k ∧ ix xs k ≤ 1000000) costsTo_iff.symm
/-- what stands ahead of the t-th end -/
def wasAt (xs : List Int) : Nat → Int
  | 0 => 0
  | t + 1 => ix xs t
def rises (xs : List Int) (n : Nat) : Prop := ∀ t, t < n → wasAt xs t < ix xs t
instance (xs : List Int) (n : Nat) : Decidable (rises xs n) := by unfold rises; exact inferInstance
/-- what is wrong with cuts -/
def endsFault (xs : List Int) (m : Int) : Int := if m < 1 ∨ 12 < m then 1 else if xs.length = 0 ∨ 6 < xs.length then 2 else if rises xs xs.length ∧ wasAt xs xs.length = m then 0 else 5
theorem endsFault_1 {xs : List Int} {m : Int} (h : m < 1 ∨ 12 < m) : endsFault xs m = 1 := if_pos h
theorem endsFault_2 {xs : List Int} {m : Int} (h : ¬ (m < 1 ∨ 12 < m)) (h2 : xs.length = 0 ∨ 6 < xs.length) : endsFault xs m = 2 := by unfold endsFault; rw [if_neg h, if_pos h2]
theorem endsFault_5 {xs : List Int} {m : Int} (h : ¬ (m < 1 ∨ 12 < m)) (h2 : ¬ (xs.length = 0 ∨ 6 < xs.length)) (h3 : ¬ (rises xs xs.length ∧ wasAt xs xs.length = m)) : endsFault xs m = 5 := by unfold endsFault; rw [if_neg h, if_neg h2, if_neg h3]
theorem endsFault_0 {xs : List Int} {m : Int} (h : ¬ (m < 1 ∨ 12 < m)) (h2 : ¬ (xs.length = 0 ∨ 6 < xs.length)) (h3 : rises xs xs.length ∧ wasAt xs xs.length = m) : endsFault xs m = 0 := by unfold endsFault; rw [if_neg h, if_neg h2, if_pos h3]
def costsFault (xs : List Int) : Int := if costsTo xs xs.length then 0 else 1
end Gal
namespace Go.Proofs.YtjaepdkeldgikaaDoor
open Go.RowKit Gal
set_option maxRecDepth 100000
set_option maxHeartbeats 1000000
theorem costly_any (xs : List Int) (a : Option Addr) (n k b o : Nat) (w : World) (h : IntsAt w a n k b o xs) : Calls Tryd.prog 47 #[.slice a n k] w fun e w' => e = .returned (errV (costsFault xs)) ∧ w = w' := by
  have hl := h.len
  have hmx := h.max
  unfold maxLen at hmx
  have HL := Lib.hid hl
  clear hl
  go_enter Tryd.func47, Tryd.ntmps47
  go_wp2
  go_loopw [7] (fun i wr => ∃ t : Nat, t ≤ n ∧ i = .int .i64 t ∧ costsTo xs t ∧ w = wr) (fun i _ => n - (intOf i).toNat)
  case atStart => exact ⟨0, Nat.zero_le _, rfl, trivial, rfl⟩
  case round =>
    obtain ⟨t, ht, rfl, hpre, rfl⟩ := hrel
    have HP := Lib.hid hpre
    clear hpre
    by_cases hlt : t < n
    · obtain rfl := h.ptr (by omega)
      have hc := h.cell t hlt
      by_cases h1 : 0 ≤ ix xs t ∧ ix xs t ≤ 1000000
      · obtain ⟨g1, g2⟩ := h1
        have g3 : (ix xs t < 0) = False := by simp; omega
        have g4 : (ix xs t > 1000000) = False := by simp; omega
        have H1 := Lib.hid (And.intro g1 g2)
        clear g1 g2
        go_wp2
        go_roundw
        case rel => exact ⟨t + 1, by omega, by go_num, ⟨HP.out, H1.out⟩, (by first | rfl | trivial)⟩
        case measure => simp [intOf]; omega
      · have hF : costsFault xs = 1 := by unfold costsFault; rw [if_neg]; exact fun h2 => h1 (costsTo_iff.1 h2 t (by rw [HL.out]; exact hlt))
        have HF := Lib.hid hF
        by_cases g1 : ix xs t < 0
        · clear h1 hF
          go_wp2
          go_ret
          exact ⟨by rw [HF.out, errV_err (by omega)]; rfl, rfl⟩
        · have g2 : (ix xs t < 0) = False := by simp; omega
          have g3 : ix xs t > 1000000 := by omega
          clear h1 hF g1
          go_wp2
          go_ret
          exact ⟨by rw [HF.out, errV_err (by omega)]; rfl, rfl⟩
    · obtain rfl : t = n := by omega
      have hF : costsFault xs = 0 := by unfold costsFault; rw [if_pos (by rw [HL.out]; exact HP.out)]
      have HF := Lib.hid hF
      clear hF
      go_wp2
      go_ret
      exact ⟨by rw [HF.out, errV_nil rfl]; rfl, rfl⟩
theorem cutCheck_any (xs : List Int) (m : Int) (a : Option Addr) (n k b o : Nat) (w : World) (h : IntsAt w a n k b o xs) : Calls Tryd.prog 20 #[.slice a n k, .int .i64 m] w fun e w' => e = .returned (errV (endsFault xs m)) ∧ w = w' := by
  have hl := h.len
  have hmx := h.max
  unfold maxLen at hmx
  by_cases h1 : m < 1 ∨ 12 < m
  · have HF := Lib.hid (endsFault_1 (xs := xs) h1)
    rcases h1 with h1 | h1
    · clear hl hmx
      go_enter Tryd.func20, Tryd.ntmps20
      go_wp2
      go_ret
      exact ⟨by rw [HF.out, errV_err (by omega)]; rfl, rfl⟩
    · have g1 : (m < 1) = False := by simp; omega
      have g2 : m > 12 := h1
      clear hl hmx h1
      go_enter Tryd.func20, Tryd.ntmps20
      go_wp2
      go_ret
      exact ⟨by rw [HF.out, errV_err (by omega)]; rfl, rfl⟩
  · have g1 : (m < 1) = False := by simp; omega
    have g2 : (m > 12) = False := by simp; omega
    by_cases h2 : n = 0 ∨ 6 < n
    · have HF := Lib.hid (endsFault_2 h1 (show xs.length = 0 ∨ 6 < xs.length by omega))
      rcases h2 with h2 | h2
      · have g3 : ((n : Int) == 0) = true := by simp [h2]
        clear hl hmx h1 h2
        go_enter Tryd.func20, Tryd.ntmps20
        go_wp2
        go_ret
        exact ⟨by rw [HF.out, errV_err (by omega)]; rfl, rfl⟩
      · have g3 : ((n : Int) == 0) = false := by simp; omega
        have g4 : (n : Int) > 6 := by omega
        clear hl hmx h1 h2
        go_enter Tryd.func20, Tryd.ntmps20
        go_wp2
        go_ret
        exact ⟨by rw [HF.out, errV_err (by omega)]; rfl, rfl⟩
    · have g3 : ((n : Int) == 0) = false := by simp; omega
      have g4 : ((n : Int) > 6) = False := by simp; omega
      have H1 := Lib.hid h1
      have H2 : Hid (¬ (xs.length = 0 ∨ 6 < xs.length)) := Lib.hid (by omega)
      have HL := Lib.hid hl
      clear hl h1 h2
      go_enter Tryd.func20, Tryd.ntmps20
      go_wp2
      go_loopw [5, 26] (fun u i wr => ∃ t : Nat, t ≤ n ∧ i = .int .i64 t ∧ u = .int .i64 (wasAt xs t) ∧ rises xs t ∧ w = wr) (fun _ i _ => n - (intOf i).toNat)
      case atStart => exact ⟨0, Nat.zero_le _, rfl, rfl, fun t ht => absurd ht (Nat.not_lt_zero _), rfl⟩
      case round =>
        obtain ⟨t, ht, rfl, rfl, hpre, rfl⟩ := hrel
        have HP := Lib.hid hpre
        clear hpre
        by_cases hlt : t < n
        · obtain rfl := h.ptr (by omega)
          have hc := h.cell t hlt
          by_cases hx : ix xs t ≤ wasAt xs t
          · have HF := Lib.hid (endsFault_5 H1.out H2.out (fun h3 => by have := h3.1 t (by rw [HL.out]; exact hlt); omega))
            go_wp2
            go_ret
            exact ⟨by rw [HF.out, errV_err (by omega)]; rfl, rfl⟩
          · have g5 : (ix xs t ≤ wasAt xs t) = False := by simp; omega
            have HX := Lib.hid hx
            clear hx
            go_wp2
            go_roundw
            case rel => exact ⟨t + 1, by omega, by go_num, rfl, (fun j hj => by
              rcases Nat.lt_or_ge j t with h6 | h6
              · exact HP.out j h6
              · obtain rfl : j = t := by omega
                have := HX.out
                omega), (by first | rfl | trivial)⟩
            case measure => simp [intOf]; omega
        · obtain rfl : t = n := by omega
          by_cases hm : wasAt xs t = m
          · have HF := Lib.hid (endsFault_0 H1.out H2.out (by rw [HL.out]; exact ⟨HP.out, hm⟩))
            have g6 : (wasAt xs t != m) = false := by simp [hm]
            clear hm
            go_wp2
            go_ret
            exact ⟨by rw [HF.out, errV_nil rfl]; rfl, rfl⟩
          · have HF := Lib.hid (endsFault_5 H1.out H2.out (fun h3 => hm (by rw [HL.out] at h3; exact h3.2)))
            have g6 : (wasAt xs t != m) = true := by simp [hm]
            clear hm
            go_wp2
            go_ret
            exact ⟨by rw [HF.out, errV_err (by omega)]; rfl, rfl⟩
end Go.Proofs.YtjaepdkeldgikaaDoor
