/- Contracts of the reference: EvenOf a plan. -/
import Derived.Test.YtjaepdkeldgikaaDoorRPlan4
set_option linter.unusedVariables false
set_option linter.unusedSimpArgs false
set_option linter.unusedSectionVars false
set_option maxRecDepth 100000
namespace Gal
/-- do the acts go back upwards, from one on? -/
def rvGo : Int → List ActD → Bool
  | _, [] => true
  | u, a :: l => if a.1 = 2 then (if a.2 < u then false else rvGo a.2 l) else rvGo u l
theorem rv_le : ∀ {l : List ActD} {u m : Int}, rvGo u l = true → ((2 : Int), m) ∈ l → u ≤ m
  | [], _, _, _, h => nomatch h
  | a :: l, u, m, h, hm => by
    unfold rvGo at h
    by_cases k : a.1 = 2
    · rw [if_pos k] at h
      by_cases k2 : a.2 < u
      · rw [if_pos k2] at h; cases h
      · rw [if_neg k2] at h
        rcases List.mem_cons.1 hm with e | h1
        · rw [← e] at k2; dsimp only at k2; omega
        · have := rv_le h h1; omega
    · rw [if_neg k] at h
      rcases List.mem_cons.1 hm with e | h1
      · rw [← e] at k; exact absurd rfl k
      · exact rv_le h h1
theorem ev_rv : ∀ {l : List ActD} {u : Int}, (∀ a ∈ l, a.1 = 1 ∨ a.1 = 2) → evGo u l = true → rvGo (u - 1) l = true
  | [], _, _, _ => rfl
  | a :: l, u, hk, h => by
    unfold evGo at h
    unfold rvGo
    by_cases k : a.1 = 1
    · rw [if_pos k] at h
      rw [if_neg (by omega)]
      exact ev_rv (fun b hb => hk b (by simp [hb])) h
    · have k' : a.1 = 2 := (hk a (by simp)).resolve_left k
      rw [if_neg k] at h
      rw [if_pos k']
      by_cases k2 : a.2 = u
      · rw [if_pos k2] at h
        rw [if_neg (by omega)]
        have := ev_rv (fun b hb => hk b (by simp [hb])) h
        rwa [show u + 1 - 1 = a.2 by omega] at this
      · rw [if_neg k2] at h; cases h
theorem rv_ev {M : Int} : ∀ {l : List ActD} {u : Int}, (∀ a ∈ l, actOk M a) → l.Nodup → (∀ m, u ≤ m → m < M → ((2 : Int), m) ∈ l) → (∀ m, m < u → ((2 : Int), m) ∉ l) → rvGo (u - 1) l = true → evGo u l = true
  | [], _, _, _, _, _, _ => rfl
  | a :: l, u, hk, hn, hi, ho, h => by
    obtain ⟨n1, n2⟩ := List.nodup_cons.1 hn
    have ha := hk a (by simp)
    unfold rvGo at h
    unfold evGo
    rcases ha.1 with k | k
    · rw [if_neg (by omega)] at h
      rw [if_pos k]
      refine rv_ev (fun b hb => hk b (by simp [hb])) n2 (fun m h1 h2 => ?_) (fun m h1 h2 => ho m h1 (by simp [h2])) h
      rcases List.mem_cons.1 (hi m h1 h2) with e | h3
      · rw [← e] at k; exact absurd (show (2 : Int) = 1 from k) (by decide)
      · exact h3
    · rw [if_pos k] at h
      rw [if_neg (by omega)]
      have ea : a = ((2 : Int), a.2) := Prod.ext k rfl
      have h0 : u ≤ a.2 := by
        rcases Int.lt_or_le a.2 u with h1 | h1
        · exact absurd (by rw [← ea]; simp) (ho a.2 h1)
        · exact h1
      rw [if_neg (by omega)] at h
      have e : a.2 = u := by
        rcases Int.lt_or_le u a.2 with h1 | h1
        · exfalso
          rcases List.mem_cons.1 (hi u (Int.le_refl _) (by have := ha.2.2; omega)) with e | h3
          · have := congrArg Prod.snd e; dsimp only at this; omega
          · have := rv_le h h3; omega
        · omega
      rw [if_pos e]
      refine rv_ev (fun b hb => hk b (by simp [hb])) n2 (fun m h1 h2 => ?_) (fun m h1 h2 => ?_) (by rw [show u + 1 - 1 = a.2 by omega]; exact h)
      · rcases List.mem_cons.1 (hi m (by omega) h2) with e2 | h3
        · have := congrArg Prod.snd e2; dsimp only at this; omega
        · exact h3
      · rcases Int.lt_or_le m u with h3 | h3
        · exact ho m h3 (by simp [h2])
        · obtain rfl : m = a.2 := by omega
          rw [← ea] at h2
          exact n1 h2
theorem stages_ok {M : Int} {p : PlanD} (h : planFault M p = 0) : ¬ planBad M p ∧ ∀ s, s < p.length → actsFault M (px p s) = 0 := by
  have hb : ¬ planBad M p := fun hb => by rw [planFault_1 hb] at h; exact absurd h (by decide)
  have h1 : stageFault M p = 0 := by
    by_cases h2 : stageFault M p = 0
    · exact h2
    · rw [planFault_first hb h2] at h; exact absurd h h2
  refine ⟨hb, fun s => ?_⟩
  induction s using Nat.strongRecOn with
  | ind s ih =>
    intro hs
    by_cases h2 : actsFault M (px p s) = 0
    · exact h2
    · have := stageFault_some hs h2 fun r hr => ih r hr (by omega)
      exact absurd (this ▸ h1) h2
theorem even_is {M : Int} {p : PlanD} (h : planFault M p = 0) : evenB p = p.all (rvGo (-1)) := by
  obtain ⟨hb, hs⟩ := stages_ok h
  obtain ⟨m, rfl⟩ : ∃ m : Nat, M = m := ⟨M.toNat, by unfold planBad at hb; omega⟩
  unfold evenB
  rw [Bool.eq_iff_iff, List.all_eq_true, List.all_eq_true]
  refine forall_congr' fun l => forall_congr' fun hl => ?_
  obtain ⟨s, hsl⟩ := List.getElem?_of_mem hl
  have hsp : s < p.length := by
    rcases Nat.lt_or_ge s p.length with h1 | h1
    · exact h1
    · rw [List.getElem?_eq_none h1] at hsl; cases hsl
  rw [px_get hsp] at hsl
  injection hsl with hsl
  have hf := hs s hsp
  rw [hsl] at hf
  obtain ⟨h1, h2, h3, h4⟩ := actsFault_ok hf
  have hm := okTo_mem h1
  exact ⟨fun h => ev_rv (u := 0) (fun a ha => (hm a ha).1) h, fun h => rv_ev (M := m) (u := 0) hm h2 (fun k h5 h6 => acts_full h1 h2 (by omega) ⟨Or.inr rfl, h5, h6⟩) (fun k h5 h6 => by have := (hm _ h6).2.1; dsimp only at this; omega) h⟩
end Gal
namespace Go.Proofs.YtjaepdkeldgikaaDoor
open Go.RowKit Gal Go.Maps
set_option maxHeartbeats 4000000
theorem refEvenOf_ok (p : PlanD) (a : Option Addr) (n k b o : Nat) (F : Nat → Prop) (w : World) (h : RowAt Form.plan w F a n k b o p) :
    Calls Tryd.prog 16 #[.slice a n k] w fun e w' => e = .returned (.bool (p.all (rvGo (-1)))) ∧ Below w.heap.size w w' := by
  have HL := Lib.hid h.len
  have hmx := h.max
  unfold maxLen at hmx
  obtain ⟨R, hR⟩ : ∃ R, p.all (rvGo (-1)) = R := ⟨_, rfl⟩
  rw [hR]
  have HR : Hid ((p.drop 0).all (rvGo (-1)) = R) := Lib.hid hR
  clear hR
  go_enter Tryd.func16, Tryd.ntmps16
  go_wp2
  go_loopw [3] (fun i wr => ∃ t : Nat, t ≤ n ∧ i = .int .i64 t ∧ Hid ((p.drop t).all (rvGo (-1)) = R) ∧ Below w.heap.size w wr) (fun i _ => n - (intOf i).toNat)
  case atStart => exact ⟨0, Nat.zero_le _, rfl, HR, (by repeat (first | fail | (with_reducible exact Below.refl _ _) | (with_reducible refine Below.al ?_ _) | (with_reducible refine Below.drN ?_ _) | (with_reducible refine Below.drew ?_) | (with_reducible refine Below.st ?_ ?_ _; rotate_left 1; (first | (dsimp only; omega) | omega | (simp; omega) | simp)) | exact Below.refl _ _))⟩
  case round =>
    obtain ⟨t, ht, rfl, hall, hbr⟩ := hrel
    by_cases hlt : t < n
    · obtain rfl := h.ptr (by omega)
      obtain ⟨ws, rfl⟩ : ∃ ws : World, ws = wr := ⟨_, rfl⟩
      have HALL : Hid ((rvGo (-1) ((px p t).drop 0) && (p.drop (t + 1)).all (rvGo (-1))) = R) := Lib.hid (by rw [← hall.out, drop_px (t := t) (by rw [HL.out]; exact hlt)]; rfl)
      obtain ⟨n1, HL1⟩ : ∃ n1, Hid ((px p t).length = n1) := ⟨_, Lib.hid rfl⟩
      go_wp2
      go_loopw [4, 5] (fun u i wr => ∃ (j : Nat) (x : Int), j ≤ n1 ∧ i = .int .i64 j ∧ u = .int .i64 x ∧ Hid ((rvGo x ((px p t).drop j) && (p.drop (t + 1)).all (rvGo (-1))) = R) ∧ Below w.heap.size w wr) (fun _ i _ => n1 - (intOf i).toNat)
      case atStart => exact ⟨0, -1, Nat.zero_le _, rfl, rfl, HALL, hbr⟩
      case round =>
        clear hbr
        obtain ⟨j, x, hj, rfl, rfl, hgo, hbr⟩ := hrel
        obtain ⟨a1, n1', k1, b1, o1, c0, hr1⟩ := plan_cell (h.keep hbr) hlt
        have hmx1 := hr1.max
        unfold maxLen at hmx1
        obtain rfl : n1 = n1' := by rw [← HL1.out, hr1.len]
        by_cases hlt2 : j < n1
        · obtain rfl := hr1.ptr (by omega)
          obtain ⟨d0, d1⟩ := act_cells hr1 hlt2
          obtain ⟨⟨x0, x1⟩, hx⟩ : ∃ x, ax (px p t) j = x := ⟨_, rfl⟩
          rw [hx] at d0 d1
          dsimp only at d0 d1
          have hgo' := hgo.out
          rw [drop_ax (by rw [HL1.out]; exact hlt2), hx] at hgo'
          unfold rvGo at hgo'
          dsimp only at hgo'
          clear hx
          by_cases k1 : x0 = 2
          · rw [if_pos k1] at hgo'
            have e1 : (x0 == 2) = true := by simp [k1]
            by_cases k2 : x1 < x
            · rw [if_pos k2] at hgo'
              have HGO : Hid (R = false) := Lib.hid (by rw [← hgo']; rfl)
              clear k1 hgo'
              go_wp2
              go_ret
              exact ⟨by rw [HGO.out]; rfl, (by repeat (first | fail | (with_reducible exact Below.refl _ _) | (with_reducible exact hbr) | (with_reducible refine Below.al ?_ _) | (with_reducible refine Below.drN ?_ _) | (with_reducible refine Below.drew ?_) | (with_reducible refine Below.st ?_ ?_ _; rotate_left 1; (first | (dsimp only; omega) | omega | (simp; omega) | simp)) | exact Below.refl _ _ | exact hbr))⟩
            · rw [if_neg k2] at hgo'
              have HGO := Lib.hid hgo'
              have e2 : (x1 < x) = False := by simp; omega
              clear k1 k2 hgo'
              go_wp2
              go_roundw
              case rel => exact ⟨j + 1, x1, by omega, by go_num, rfl, HGO, (by repeat (first | fail | (with_reducible exact Below.refl _ _) | (with_reducible exact hbr) | (with_reducible refine Below.al ?_ _) | (with_reducible refine Below.drN ?_ _) | (with_reducible refine Below.drew ?_) | (with_reducible refine Below.st ?_ ?_ _; rotate_left 1; (first | (dsimp only; omega) | omega | (simp; omega) | simp)) | exact Below.refl _ _ | exact hbr))⟩
              case measure => simp [intOf]; omega
          · rw [if_neg k1] at hgo'
            have HGO := Lib.hid hgo'
            have e1 : (x0 == 2) = false := by simp [k1]
            clear k1 hgo'
            go_wp2
            go_roundw
            case rel => exact ⟨j + 1, x, by omega, by go_num, rfl, HGO, (by repeat (first | fail | (with_reducible exact Below.refl _ _) | (with_reducible exact hbr) | (with_reducible refine Below.al ?_ _) | (with_reducible refine Below.drN ?_ _) | (with_reducible refine Below.drew ?_) | (with_reducible refine Below.st ?_ ?_ _; rotate_left 1; (first | (dsimp only; omega) | omega | (simp; omega) | simp)) | exact Below.refl _ _ | exact hbr))⟩
            case measure => simp [intOf]; omega
        · obtain rfl : n1 = j := by omega
          have HNX : Hid ((p.drop (t + 1)).all (rvGo (-1)) = R) := Lib.hid (by
            have h1 := hgo.out
            rw [List.drop_of_length_le (by rw [HL1.out]; exact Nat.le_refl _)] at h1
            unfold rvGo at h1
            simpa using h1)
          go_wp2
          go_roundw
          case rel => exact ⟨t + 1, by omega, by go_num, HNX, hbr⟩
          case measure => simp [intOf]; omega
    · obtain rfl : n = t := by omega
      have HV : Hid (R = true) := Lib.hid (by rw [← hall.out, List.drop_of_length_le (by rw [HL.out]; exact Nat.le_refl _)]; rfl)
      go_wp2
      go_ret
      exact ⟨by rw [HV.out]; rfl, hbr⟩
end Go.Proofs.YtjaepdkeldgikaaDoor
