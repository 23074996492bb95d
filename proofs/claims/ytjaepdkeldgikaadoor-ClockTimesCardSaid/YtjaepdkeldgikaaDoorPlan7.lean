/- Contracts of package plan: Even; a closed fact of the laws. -/
import Derived.Test.YtjaepdkeldgikaaDoorPlan6
import Derived.Test.YtjaepdkeldgikaaDoorPPlan4
import Derived.Laws.StructEq
set_option linter.unusedVariables false
set_option linter.unusedSimpArgs false
set_option linter.unusedSectionVars false
namespace Gal
/-- do the acts go back part by part, from one on? -/
def evGo : Int → List ActD → Bool
  | _, [] => true
  | u, a :: l => if a.1 = 1 then evGo u l else if a.2 = u then evGo (u + 1) l else false
def evenB (p : PlanD) : Bool := p.all (evGo 0)
theorem drop_ax {l : List ActD} {t : Nat} (h : t < l.length) : l.drop t = ax l t :: l.drop (t + 1) := by
  rw [List.drop_eq_getElem_cons h]
  have := ax_get h
  rw [List.getElem?_eq_getElem h] at this
  simp only [Option.some.injEq] at this
  rw [this]
theorem drop_px {p : PlanD} {t : Nat} (h : t < p.length) : p.drop t = px p t :: p.drop (t + 1) := by
  rw [List.drop_eq_getElem_cons h]
  have := px_get h
  rw [List.getElem?_eq_getElem h] at this
  simp only [Option.some.injEq] at this
  rw [this]
theorem waves_even : ∀ S : Fin 6, ∀ M : Fin 12, evenB (waveOf (S.val + 1) (M.val + 1)) = true := by decide +kernel
theorem turns_even : ∀ S : Fin 6, ∀ M : Fin 12, evenB (turnsOf (S.val + 1) (M.val + 1)) = true := by decide +kernel
theorem wave_even {S M : Nat} (hS : 1 ≤ S ∧ S ≤ 6) (hM : 1 ≤ M ∧ M ≤ 12) : evenB (waveOf S M) = true := by
  have h1 := waves_even ⟨S - 1, by omega⟩ ⟨M - 1, by omega⟩
  simp only [show S - 1 + 1 = S by omega, show M - 1 + 1 = M by omega] at h1
  exact h1
theorem turns_even' {S M : Nat} (hS : 1 ≤ S ∧ S ≤ 6) (hM : 1 ≤ M ∧ M ≤ 12) : evenB (turnsOf S M) = true := by
  have h1 := turns_even ⟨S - 1, by omega⟩ ⟨M - 1, by omega⟩
  simp only [show S - 1 + 1 = S by omega, show M - 1 + 1 = M by omega] at h1
  exact h1
end Gal
namespace Go.Proofs.YtjaepdkeldgikaaDoor
open Go.RowKit Gal Go.Maps
set_option maxRecDepth 100000
set_option maxHeartbeats 4000000
theorem planEven_bad (p : PlanD) (M : Int) (a : Option Addr) (n k b o : Nat) (F : Nat → Prop) (w : World) (h : RowAt Form.plan w F a n k b o p) (hf : planFault M p ≠ 0) :
    Calls Tryd.prog 15 #[.slice a n k, .int .i64 M] w fun e w' => e = .returned (.tuple #[.bool false, errV (planFault M p)]) ∧ Below w.heap.size w w' := by
  have HF := Lib.hid hf
  clear hf
  go_enter Tryd.func15, Tryd.ntmps15
  go_wp2_with fail
  refine (planCheck_any p M a n k b o F w h).mono ?_
  rintro e w1 ⟨rfl, hb1⟩
  rw [errV_err HF.out]
  go_wp2
  go_ret2
  exact ⟨by rw [errV_err HF.out]; rfl, hb1⟩
theorem planEven_ok (p : PlanD) (M : Int) (a : Option Addr) (n k b o : Nat) (F : Nat → Prop) (w : World) (h : RowAt Form.plan w F a n k b o p) (hf : planFault M p = 0) :
    Calls Tryd.prog 15 #[.slice a n k, .int .i64 M] w fun e w' => e = .returned (.tuple #[.bool (evenB p), .nilIface]) ∧ Below w.heap.size w w' := by
  have HF := Lib.hid hf
  clear hf
  have HL := Lib.hid h.len
  have hmx := h.max
  unfold maxLen at hmx
  obtain ⟨R, hR⟩ : ∃ R, evenB p = R := ⟨_, rfl⟩
  rw [hR]
  have HR : Hid ((p.drop 0).all (evGo 0) = R) := Lib.hid hR
  clear hR
  go_enter Tryd.func15, Tryd.ntmps15
  go_wp2_with fail
  refine (planCheck_any p M a n k b o F w h).mono ?_
  rintro e w1 ⟨rfl, hb1⟩
  rw [errV_nil HF.out]
  go_wp2
  go_loopw [20] (fun i wr => ∃ t : Nat, t ≤ n ∧ i = .int .i64 t ∧ Hid ((p.drop t).all (evGo 0) = R) ∧ Below w.heap.size w wr) (fun i _ => n - (intOf i).toNat)
  case atStart => exact ⟨0, Nat.zero_le _, rfl, HR, hb1⟩
  case round =>
    obtain ⟨t, ht, rfl, hall, hbr⟩ := hrel
    by_cases hlt : t < n
    · obtain rfl := h.ptr (by omega)
      obtain ⟨a1, n1, k1, b1, o1, c0, hr1⟩ := plan_cell (h.keep hbr) hlt
      have hmx1 := hr1.max
      unfold maxLen at hmx1
      have HL1 := Lib.hid hr1.len
      have HALL : Hid ((evGo 0 ((px p t).drop 0) && (p.drop (t + 1)).all (evGo 0)) = R) := Lib.hid (by rw [← hall.out, drop_px (t := t) (by rw [HL.out]; exact hlt)]; rfl)
      obtain ⟨ws, rfl⟩ : ∃ ws : World, ws = wr := ⟨_, rfl⟩
      go_wp2
      go_loopw [9, 26] (fun u i wr => ∃ (j : Nat) (x : Nat), j ≤ n1 ∧ x ≤ j ∧ i = .int .i64 j ∧ u = .int .i64 x ∧ Hid ((evGo x ((px p t).drop j) && (p.drop (t + 1)).all (evGo 0)) = R) ∧ Below ws.heap.size ws wr) (fun _ i _ => n1 - (intOf i).toNat)
      case atStart => exact ⟨0, 0, Nat.zero_le _, Nat.le_refl _, rfl, rfl, HALL, (by repeat (first | fail | (with_reducible exact Below.refl _ _) | (with_reducible refine Below.al ?_ _) | (with_reducible refine Below.drN ?_ _) | (with_reducible refine Below.drew ?_) | (with_reducible refine Below.st ?_ ?_ _; rotate_left 1; (first | (dsimp only; omega) | omega | (simp; omega) | simp)) | exact Below.refl _ _))⟩
      case round =>
        obtain ⟨j, x, hj, hxj, rfl, rfl, hgo, hbs⟩ := hrel
        by_cases hlt2 : j < n1
        · obtain rfl := hr1.ptr (by omega)
          obtain ⟨d0, d1⟩ := act_cells (hr1.keep hbs) hlt2
          obtain ⟨⟨x0, x1⟩, hx⟩ : ∃ x, ax (px p t) j = x := ⟨_, rfl⟩
          rw [hx] at d0 d1
          dsimp only at d0 d1
          have hgo' := hgo.out
          rw [drop_ax (by rw [HL1.out]; exact hlt2), hx] at hgo'
          unfold evGo at hgo'
          dsimp only at hgo'
          clear hx
          have hbn : Below ws.heap.size ws (wr.alloc (.cells #[.int .i64 x0, .int .i64 x1] 73)) := (by repeat (first | fail | (with_reducible exact Below.refl _ _) | (with_reducible exact hbs) | (with_reducible refine Below.al ?_ _) | (with_reducible refine Below.drN ?_ _) | (with_reducible refine Below.drew ?_) | (with_reducible refine Below.st ?_ ?_ _; rotate_left 1; (first | (dsimp only; omega) | omega | (simp; omega) | simp)) | exact Below.refl _ _ | exact hbs))
          by_cases k1 : x0 = 1
          · rw [if_pos k1] at hgo'
            have HGO := Lib.hid hgo'
            have e1 : (x0 == 1) = true := by simp [k1]
            clear k1 hgo'
            go_wp2
            go_roundw
            case rel => exact ⟨j + 1, x, by omega, by omega, by go_num, rfl, HGO, hbn⟩
            case measure => simp [intOf]; omega
          · rw [if_neg k1] at hgo'
            have e1 : (x0 == 1) = false := by simp [k1]
            by_cases k2 : x1 = (x : Int)
            · rw [if_pos k2] at hgo'
              have HGO : Hid ((evGo ((x + 1 : Nat) : Int) ((px p t).drop (j + 1)) && (p.drop (t + 1)).all (evGo 0)) = R) := Lib.hid hgo'
              have e2 : (x1 != (x : Int)) = false := by simp [k2]
              clear k1 k2 hgo'
              go_wp2
              go_roundw
              case rel => exact ⟨j + 1, x + 1, by omega, by omega, by go_num, by go_num, HGO, hbn⟩
              case measure => simp [intOf]; omega
            · rw [if_neg k2] at hgo'
              have HGO : Hid (R = false) := Lib.hid (by rw [← hgo']; rfl)
              have e2 : (x1 != (x : Int)) = true := by simp [k2]
              clear k1 k2 hgo'
              go_wp2
              go_ret2
              exact ⟨by rw [HGO.out]; rfl, hbr.trans (hbn.mono hbr.size)⟩
        · obtain rfl : n1 = j := by omega
          have HNX : Hid ((p.drop (t + 1)).all (evGo 0) = R) := Lib.hid (by
            have h1 := hgo.out
            rw [List.drop_of_length_le (by rw [HL1.out]; exact Nat.le_refl _)] at h1
            unfold evGo at h1
            simpa using h1)
          go_wp2
          go_roundw
          case rel => exact ⟨t + 1, by omega, by go_num, HNX, hbr.trans (hbs.mono hbr.size)⟩
          case measure => simp [intOf]; omega
    · obtain rfl : n = t := by omega
      have HV : Hid (R = true) := Lib.hid (by rw [← hall.out, List.drop_of_length_le (by rw [HL.out]; exact Nat.le_refl _)]; rfl)
      go_wp2
      go_ret2
      exact ⟨by rw [HV.out]; rfl, hbr⟩
end Go.Proofs.YtjaepdkeldgikaaDoor
