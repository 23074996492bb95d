/- Contracts of the reference: ActsFault of one stage, where an act stands. -/
import Derived.Test.YtjaepdkeldgikaaDoorPlan6
import Derived.Test.YtjaepdkeldgikaaDoorPPlan6
import Derived.BigQuiet
set_option linter.unusedVariables false
set_option linter.unusedSimpArgs false
set_option linter.unusedSectionVars false
set_option maxRecDepth 100000
namespace Gal
theorem ref_8 {M : Nat} {l : List ActD} (h1 : okTo M l l.length) (h2 : twice l l.length) : actsFault M l = 8 := by
  rw [← refActs_is]; unfold refActs; rw [if_neg (fun hh : ¬ okTo M l l.length => hh h1), if_pos h2]
theorem ref_2 {M : Nat} {l : List ActD} (h1 : okTo M l l.length) (h2 : ¬ twice l l.length) (h3 : (l.length : Int) < 2 * M) : actsFault M l = 2 := by
  rw [← refActs_is]; unfold refActs; rw [if_neg (fun hh : ¬ okTo M l l.length => hh h1), if_neg h2, if_pos h3]
theorem ref_5 {M : Nat} {l : List ActD} (h1 : okTo M l l.length) (h2 : ¬ twice l l.length) (h3 : ¬ (l.length : Int) < 2 * M) (h4 : late l l.length) : actsFault M l = 5 := by
  rw [← refActs_is]; unfold refActs; rw [if_neg (fun hh : ¬ okTo M l l.length => hh h1), if_neg h2, if_neg h3, if_pos h4]
theorem ref_0 {M : Nat} {l : List ActD} (h1 : okTo M l l.length) (h2 : ¬ twice l l.length) (h3 : ¬ (l.length : Int) < 2 * M) (h4 : ¬ late l l.length) : actsFault M l = 0 := by
  rw [← refActs_is]; unfold refActs; rw [if_neg (fun hh : ¬ okTo M l l.length => hh h1), if_neg h2, if_neg h3, if_neg h4]
end Gal
namespace Go.Proofs.YtjaepdkeldgikaaDoor
open Go.RowKit Gal Go.Maps
set_option maxHeartbeats 4000000
/-- what is wrong with one stage -/
theorem refActs_ok (l : List ActD) (m : Nat) (a : Option Addr) (n k b o : Nat) (F : Nat → Prop) (w : World) (h : RowAt Form.act w F a n k b o l) (hm : 1 ≤ m ∧ m ≤ 12) :
    Calls Tryd.prog 42 #[.slice a n k, .int .i64 m] w fun e w' => e = .returned (.int .i64 (actsFault m l)) ∧ ∃ q, w' = w.drewN q := by
  have HL := Lib.hid h.len
  have hmx := h.max
  unfold maxLen at hmx
  obtain ⟨M1, M2⟩ := hm
  obtain ⟨V, hV⟩ : ∃ V, actsFault m l = V := ⟨_, rfl⟩
  rw [hV]
  have HV := Lib.hid hV
  clear hV
  go_enter Tryd.func42, Tryd.ntmps42
  go_wp2
  go_loopw [5] (fun i wr => ∃ t : Nat, t ≤ n ∧ i = .int .i64 t ∧ Hid (okTo m l t) ∧ wr = w.drewN 0) (fun i _ => n - (intOf i).toNat)
  case atStart => exact ⟨0, Nat.zero_le _, rfl, Lib.hid fun i hi => absurd hi (Nat.not_lt_zero _), rfl⟩
  case round =>
    obtain ⟨t, ht, rfl, hok, rfl⟩ := hrel
    by_cases hlt : t < n
    · obtain rfl := h.ptr (by omega)
      obtain ⟨c1, c2⟩ := act_cells h hlt
      obtain ⟨⟨x0, x1⟩, hx⟩ : ∃ x, ax l t = x := ⟨_, rfl⟩
      rw [hx] at c1 c2
      dsimp only at c1 c2
      by_cases hact : actOk m (x0, x1)
      · have HOK : Hid (okTo m l (t + 1)) := Lib.hid fun i hi => by
          rcases Nat.lt_or_ge i t with h1 | h1
          · exact hok.out i h1
          · obtain rfl : i = t := by omega
            rw [hx]; exact hact
        unfold actOk at hact
        dsimp only at hact
        obtain ⟨k1, k2, k3⟩ := hact
        have e1 : (x0 < 1) = False := by simp; omega
        have e2 : (x0 > 2) = False := by simp; omega
        have e3 : (x1 < 0) = False := by simp; omega
        have e4 : (x1 ≥ (m : Int)) = False := by simp; omega
        clear hx k1
        go_wp2
        go_roundw
        case rel => exact ⟨t + 1, by omega, by go_num, HOK, by trivial⟩
        case measure => simp [intOf]; omega
      · have HF : Hid (V = 1) := Lib.hid (by rw [← HV.out]; exact actsFault_1 (t := t) (by rw [HL.out]; exact hlt) (by rw [hx]; exact hact))
        unfold actOk at hact
        dsimp only at hact
        clear hx
        by_cases g1 : x0 < 1
        · clear hact
          go_wp2
          go_ret
          exact ⟨by rw [HF.out]; rfl, 0, rfl⟩
        · have e1 : (x0 < 1) = False := by simp; omega
          by_cases g2 : x0 > 2
          · clear hact g1
            go_wp2
            go_ret
            exact ⟨by rw [HF.out]; rfl, 0, rfl⟩
          · have e2 : (x0 > 2) = False := by simp; omega
            by_cases g3 : x1 < 0
            · clear hact g1 g2
              go_wp2
              go_ret
              exact ⟨by rw [HF.out]; rfl, 0, rfl⟩
            · have e3 : (x1 < 0) = False := by simp; omega
              have e4 : x1 ≥ (m : Int) := by omega
              clear hact g1 g2 g3
              go_wp2
              go_ret
              exact ⟨by rw [HF.out]; rfl, 0, rfl⟩
    · obtain rfl : n = t := by omega
      have HOK : Hid (okTo m l l.length) := Lib.hid (by rw [HL.out]; exact hok.out)
      clear hok
      go_wp2
      go_loopw [6] (fun i wr => ∃ t q : Nat, t ≤ n ∧ i = .int .i64 t ∧ Hid (¬ twice l t) ∧ wr = w.drewN q) (fun i _ => n - (intOf i).toNat)
      case atStart => exact ⟨0, 0, Nat.zero_le _, rfl, Lib.hid (by rintro ⟨i, hi, _⟩; omega), rfl⟩
      case round =>
        obtain ⟨t, q, ht, rfl, hno, rfl⟩ := hrel
        by_cases hlt : t < n
        · obtain rfl := h.ptr (by omega)
          go_wp2
          go_loopw [7] (fun i wr => ∃ j q : Nat, j ≤ t ∧ i = .int .i64 j ∧ Hid (∀ r, r < j → ax l t ≠ ax l r) ∧ wr = w.drewN q) (fun i _ => t - (intOf i).toNat)
          case atStart => exact ⟨0, q, Nat.zero_le _, rfl, Lib.hid (fun r hr => absurd hr (Nat.not_lt_zero _)), rfl⟩
          case round =>
            obtain ⟨j, q2, hj, rfl, hne, rfl⟩ := hrel
            by_cases hlt2 : j < t
            · obtain ⟨c1, c2⟩ := act_cells h hlt
              obtain ⟨d1, d2⟩ := act_cells h (show j < n by omega)
              obtain ⟨⟨x0, x1⟩, hx⟩ : ∃ x, ax l t = x := ⟨_, rfl⟩
              obtain ⟨⟨y0, y1⟩, hy⟩ : ∃ x, ax l j = x := ⟨_, rfl⟩
              rw [hx] at c1 c2
              rw [hy] at d1 d2
              dsimp only at c1 c2 d1 d2
              have HX := Lib.hid hx
              have HY := Lib.hid hy
              have h2 : (0 : Int) ≤ (j : Int) := by omega
              have h3 : (j : Int) < (n : Int) := by omega
              have h4 : (0 : Int) ≤ (t : Int) := by omega
              have h5 : (t : Int) < (n : Int) := by omega
              clear hx hy
              by_cases hxy : (x0, x1) = (y0, y1)
              · have HF : Hid (V = 8) := Lib.hid (by rw [← HV.out]; exact ref_8 HOK.out ⟨t, by rw [HL.out]; exact hlt, j, hlt2, by rw [HX.out, HY.out]; exact hxy⟩)
                injection hxy with g1 g2
                subst g1 g2
                go_wp2
                go_quiet (fail)
                go_wp2
                go_ret
                exact ⟨by rw [HF.out]; rfl, _, by (first | rfl | exact World.drewN_drewN _ _ _)⟩
              · have HNE : Hid (∀ r, r < j + 1 → ax l t ≠ ax l r) := Lib.hid fun r hr => by
                  rcases Nat.lt_or_ge r j with h1 | h1
                  · exact hne.out r h1
                  · obtain rfl : r = j := by omega
                    rw [HX.out, HY.out]; exact hxy
                by_cases g1 : x0 = y0
                · have g2 : ¬ x1 = y1 := fun e => hxy (by rw [g1, e])
                  have e1 : (x0 == y0) = true := by simp [g1]
                  have e2 : (x1 == y1) = false := by simp [g2]
                  clear g1 g2 hxy
                  go_wp2
                  go_quiet (fail)
                  go_wp2
                  go_roundw
                  case rel => exact ⟨j + 1, _, by omega, by go_num, HNE, (by first | rfl | exact World.drewN_drewN _ _ _)⟩
                  case measure => simp [intOf]; omega
                · have e1 : (x0 == y0) = false := by simp [g1]
                  clear g1 hxy
                  go_wp2
                  go_quiet (fail)
                  go_wp2
                  go_roundw
                  case rel => exact ⟨j + 1, _, by omega, by go_num, HNE, (by first | rfl | exact World.drewN_drewN _ _ _)⟩
                  case measure => simp [intOf]; omega
            · obtain rfl : t = j := by omega
              have HNO : Hid (¬ twice l (t + 1)) := Lib.hid (by
                rintro ⟨i, hi, r, hr, e⟩
                rcases Nat.lt_or_ge i t with h1 | h1
                · exact hno.out ⟨i, h1, r, hr, e⟩
                · obtain rfl : i = t := by omega
                  exact hne.out r hr e)
              go_wp2
              go_roundw
              case rel => exact ⟨t + 1, _, by omega, by go_num, HNO, rfl⟩
              case measure => simp [intOf]; omega
        · obtain rfl : n = t := by omega
          have HNO : Hid (¬ twice l l.length) := Lib.hid (by rw [HL.out]; exact hno.out)
          clear hno
          by_cases hsh : (n : Int) < 2 * (m : Int)
          · have HF : Hid (V = 2) := Lib.hid (by rw [← HV.out]; exact ref_2 HOK.out HNO.out (by rw [HL.out]; exact hsh))
            go_wp2
            go_ret
            exact ⟨by rw [HF.out]; rfl, _, rfl⟩
          · have HSH : Hid (¬ (l.length : Int) < 2 * m) := Lib.hid (by rw [HL.out]; exact hsh)
            go_wp2
            go_loopw [8] (fun i wr => ∃ t q : Nat, t ≤ n ∧ i = .int .i64 t ∧ Hid (¬ late l t) ∧ wr = w.drewN q) (fun i _ => n - (intOf i).toNat)
            case atStart => exact ⟨0, q, Nat.zero_le _, rfl, Lib.hid (by rintro ⟨i, hi, _⟩; omega), rfl⟩
            case round =>
              obtain ⟨t, q, ht, rfl, hno, rfl⟩ := hrel
              by_cases hlt : t < n
              · obtain rfl := h.ptr (by omega)
                go_wp2
                go_loopw [9] (fun i wr => ∃ j q : Nat, j ≤ t ∧ i = .int .i64 j ∧ Hid (∀ r, r < j → ¬ ((ax l t).2 = (ax l r).2 ∧ (ax l r).1 = 2)) ∧ wr = w.drewN q) (fun i _ => t - (intOf i).toNat)
                case atStart => exact ⟨0, q, Nat.zero_le _, rfl, Lib.hid (fun r hr => absurd hr (Nat.not_lt_zero _)), rfl⟩
                case round =>
                  obtain ⟨j, q2, hj, rfl, hne, rfl⟩ := hrel
                  by_cases hlt2 : j < t
                  · obtain ⟨c1, c2⟩ := act_cells h hlt
                    obtain ⟨d1, d2⟩ := act_cells h (show j < n by omega)
                    obtain ⟨⟨x0, x1⟩, hx⟩ : ∃ x, ax l t = x := ⟨_, rfl⟩
                    obtain ⟨⟨y0, y1⟩, hy⟩ : ∃ x, ax l j = x := ⟨_, rfl⟩
                    rw [hx] at c1 c2
                    rw [hy] at d1 d2
                    dsimp only at c1 c2 d1 d2
                    have HX := Lib.hid hx
                    have HY := Lib.hid hy
                    have h2 : (0 : Int) ≤ (j : Int) := by omega
                    have h3 : (j : Int) < (n : Int) := by omega
                    have h4 : (0 : Int) ≤ (t : Int) := by omega
                    have h5 : (t : Int) < (n : Int) := by omega
                    have HNX : Hid (¬ (x1 = y1 ∧ y0 = 2) → ∀ r, r < j + 1 → ¬ ((ax l t).2 = (ax l r).2 ∧ (ax l r).1 = 2)) := Lib.hid fun hn r hr => by
                      rcases Nat.lt_or_ge r j with h1 | h1
                      · exact hne.out r h1
                      · obtain rfl : r = j := by omega
                        rw [HX.out, HY.out]; exact hn
                    clear hx hy
                    by_cases g1 : x1 = y1
                    · have e1 : (x1 == y1) = true := by simp [g1]
                      by_cases g2 : y0 = 2
                      · have HF : Hid (V = 5) := Lib.hid (by rw [← HV.out]; exact ref_5 HOK.out HNO.out (by have := HSH.out; omega) ⟨t, by rw [HL.out]; exact hlt, j, hlt2, by rw [HX.out, HY.out]; exact g1, by rw [HY.out]; exact g2⟩)
                        have e2 : (y0 == 2) = true := by simp [g2]
                        clear g1 g2
                        go_wp2
                        go_quiet (fail)
                        go_wp2
                        go_ret
                        exact ⟨by rw [HF.out]; rfl, _, by (first | rfl | exact World.drewN_drewN _ _ _)⟩
                      · have HNE := Lib.hid (HNX.out fun hh => g2 hh.2)
                        have e2 : (y0 == 2) = false := by simp [g2]
                        clear g1 g2
                        go_wp2
                        go_quiet (fail)
                        go_wp2
                        go_roundw
                        case rel => exact ⟨j + 1, _, by omega, by go_num, HNE, (by first | rfl | exact World.drewN_drewN _ _ _)⟩
                        case measure => simp [intOf]; omega
                    · have HNE := Lib.hid (HNX.out fun hh => g1 hh.1)
                      have e1 : (x1 == y1) = false := by simp [g1]
                      clear g1
                      go_wp2
                      go_quiet (fail)
                      go_wp2
                      go_roundw
                      case rel => exact ⟨j + 1, _, by omega, by go_num, HNE, (by first | rfl | exact World.drewN_drewN _ _ _)⟩
                      case measure => simp [intOf]; omega
                  · obtain rfl : t = j := by omega
                    have HNO2 : Hid (¬ late l (t + 1)) := Lib.hid (by
                      rintro ⟨i, hi, r, hr, e⟩
                      rcases Nat.lt_or_ge i t with h1 | h1
                      · exact hno.out ⟨i, h1, r, hr, e⟩
                      · obtain rfl : i = t := by omega
                        exact hne.out r hr e)
                    go_wp2
                    go_roundw
                    case rel => exact ⟨t + 1, _, by omega, by go_num, HNO2, rfl⟩
                    case measure => simp [intOf]; omega
              · obtain rfl : n = t := by omega
                have HF : Hid (V = 0) := Lib.hid (by rw [← HV.out]; exact ref_0 HOK.out HNO.out (by have := HSH.out; omega) (by rw [HL.out]; exact hno.out))
                go_wp2
                go_ret
                exact ⟨by rw [HF.out]; rfl, _, rfl⟩
theorem where_ok (l : List ActD) (K y : Int) (a : Option Addr) (n k b o : Nat) (F : Nat → Prop) (w : World) (h : RowAt Form.act w F a n k b o l) :
    Calls Tryd.prog 43 #[.slice a n k, .int .i64 K, .int .i64 y] w fun e w' => ∃ v : Int, e = .returned (.int .i64 v) ∧ w' = w ∧ ((v = -1 ∧ (K, y) ∉ l) ∨ ∃ t : Nat, t < n ∧ v = t ∧ ax l t = (K, y) ∧ (K, y) ∉ l.take t) := by
  have HL := Lib.hid h.len
  have hmx := h.max
  unfold maxLen at hmx
  go_enter Tryd.func43, Tryd.ntmps43
  go_wp2
  go_loopw [7] (fun i wr => ∃ t : Nat, t ≤ n ∧ i = .int .i64 t ∧ Hid ((K, y) ∉ l.take t) ∧ wr = w.drewN 0) (fun i _ => n - (intOf i).toNat)
  case atStart => exact ⟨0, Nat.zero_le _, rfl, Lib.hid (by simp), rfl⟩
  case round =>
    obtain ⟨t, ht, rfl, hno, rfl⟩ := hrel
    by_cases hlt : t < n
    · obtain rfl := h.ptr (by omega)
      obtain ⟨c1, c2⟩ := act_cells h hlt
      obtain ⟨⟨x0, x1⟩, hx⟩ : ∃ x, ax l t = x := ⟨_, rfl⟩
      rw [hx] at c1 c2
      dsimp only at c1 c2
      have HX := Lib.hid hx
      have HN : Hid ((x0, x1) ≠ (K, y) → (K, y) ∉ l.take (t + 1)) := Lib.hid fun hne hm => by
        rw [take_ax (by rw [HL.out]; exact hlt), hx] at hm
        rcases List.mem_append.1 hm with h1 | h1
        · exact hno.out h1
        · exact hne (List.mem_singleton.1 h1).symm
      clear hx
      by_cases g1 : x0 = K
      · by_cases g2 : x1 = y
        · subst g1 g2
          go_wp2
          go_ret
          exact ⟨t, rfl, rfl, Or.inr ⟨t, hlt, rfl, HX.out, hno.out⟩⟩
        · have HNX : Hid ((K, y) ∉ l.take (t + 1)) := Lib.hid (HN.out fun e => g2 (congrArg Prod.snd e))
          have e1 : (x0 == K) = true := by simp [g1]
          have e2 : (x1 == y) = false := by simp [g2]
          clear g1 g2
          go_wp2
          go_roundw
          case rel => exact ⟨t + 1, by omega, by go_num, HNX, by trivial⟩
          case measure => simp [intOf]; omega
      · have HNX : Hid ((K, y) ∉ l.take (t + 1)) := Lib.hid (HN.out fun e => g1 (congrArg Prod.fst e))
        have e1 : (x0 == K) = false := by simp [g1]
        clear g1
        go_wp2
        go_roundw
        case rel => exact ⟨t + 1, by omega, by go_num, HNX, by trivial⟩
        case measure => simp [intOf]; omega
    · obtain rfl : n = t := by omega
      have HN : Hid ((K, y) ∉ l) := Lib.hid (by have := hno.out; rwa [List.take_of_length_le (by rw [HL.out]; exact Nat.le_refl _)] at this)
      go_wp2
      go_ret
      exact ⟨-1, rfl, rfl, Or.inl ⟨rfl, HN.out⟩⟩
end Go.Proofs.YtjaepdkeldgikaaDoor
