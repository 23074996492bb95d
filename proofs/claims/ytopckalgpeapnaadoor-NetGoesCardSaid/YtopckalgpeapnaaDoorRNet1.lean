/- Contracts of the reference: NetWide. -/
import Derived.Test.YtopckalgpeapnaaDoorNet1
import Derived.Test.YtopckalgpeapnaaDoorGrads
import Derived.Test.YtopckalgpeapnaaDoorRLay2
set_option linter.unusedVariables false
set_option linter.unusedSimpArgs false
namespace Go.Proofs.YtopckalgpeapnaaDoor
open Go.RowKit Gal
set_option linter.unusedSectionVars false
set_option maxRecDepth 100000
set_option maxHeartbeats 4000000
theorem refNetWide_any (ls : List Lay) (F : Nat → Prop) (a : Option Addr) (n k b o : Nat) (i : Int) (w : World) (h : RowAt Form.lay w F a n k b o ls) (hi : -9223372036854775808 ≤ i ∧ i ≤ 9223372036854775807) :
    Calls Tryd.prog 57 #[.slice a n k, .int .i64 i] w fun e w' => e = .returned (.tuple #[.int .i64 (okOr (netWideFault ls i) (netW ls i n)), .int .i64 (netWideFault ls i)]) ∧ Below w.heap.size w w' := by
  have hl := h.len
  have hm := h.max
  unfold maxLen at hm
  by_cases h12 : 12 < n
  · have hf : netWideFault ls i = 3 := by unfold netWideFault; rw [if_pos (by omega)]
    rw [hf, okOr_bad (by omega)]
    clear hf
    go_enter Tryd.func57, Tryd.ntmps57
    go_wp2
    refine bodyPost_ret (v := .tuple #[.int .i64 0, .int .i64 3]) (by simp [results, Tryd.results57, go_sem]) rfl ⟨?_, ?_⟩
    · rfl
    · exact Below.refl _ _
  · have HF0 : Hid (netWideFault ls i = if n = 0 ∧ (i < 0 ∨ 12 < i) then 1 else wideTo ls i n) := Lib.hid (by unfold netWideFault; rw [if_neg (by omega), hl])
    go_enter Tryd.func57, Tryd.ntmps57
    go_wp2
    go_loopw [1, 6] (fun s j wr => ∃ t : Nat, t ≤ n ∧ j = .int .i64 t ∧ s = .int .i64 (netW ls i t) ∧ wideTo ls i t = 0 ∧ Below w.heap.size w wr) (fun _ j _ => n - (intOf j).toNat)
    case atStart => exact ⟨0, Nat.zero_le _, rfl, rfl, rfl, Below.refl _ _⟩
    case round =>
      obtain ⟨t, ht, rfl, rfl, hw0, hbr⟩ := hrel
      have HW := Lib.hid hw0
      have hbd : -9223372036854775808 ≤ netW ls i t ∧ netW ls i t ≤ 9223372036854775807 := by
        rcases Nat.eq_zero_or_pos t with rfl | hp
        · exact hi
        · have := netW_bd hw0 hp; omega
      by_cases hlt : t < n
      · clear hw0
        have HFN : Hid (netWideFault ls i = wideTo ls i n) := Lib.hid (by rw [HF0.out, if_neg (by omega)])
        have HST : Hid ((lx ls t).wideFault (netW ls i t) ≠ 0 → wideTo ls i n = (lx ls t).wideFault (netW ls i t)) := Lib.hid fun hne => by
          have hs : wideTo ls i (t + 1) = (lx ls t).wideFault (netW ls i t) := wideTo_succ HW.out
          rw [wideTo_stop (show t + 1 ≤ n by omega) (by rw [hs]; exact hne), hs]
        obtain rfl := h.ptr (by omega)
        obtain ⟨a1, n1, k1, b1, o1, a2, n2, k2, b2, o2, c0, c1, c2, c3, c4, c5, c6, x1, x2⟩ := lay_cells (h.keep hbr) hlt
        have hbs := (h.keep hbr).lt (by omega)
        by_cases hf : (lx ls t).fault = 0
        · have HF := Lib.hid hf
          by_cases h1 : netW ls i t < 0 ∨ 12 < netW ls i t
          · have HWF : Hid ((lx ls t).wideFault (netW ls i t) = 1) := Lib.hid (by unfold Lay.wideFault; rw [if_neg (by simp [hf]), if_pos h1])
            clear hf
            rcases h1 with h1 | h1
            · go_wp2_with fail
              refine (refLayerFault_any (lx ls t) _ _ ⟨_, _, _, _, _, _, _, _, _, _, rfl, x1, x2⟩).mono ?_
              rw [HF.out]
              rintro e w1 ⟨rfl, hb1⟩
              have hbe : Below w.heap.size w w1 := (by repeat (first | fail | (with_reducible exact Below.refl _ _) | (with_reducible exact hbr) | (with_reducible refine Below.al ?_ _) | (with_reducible refine Below.drN ?_ _) | (with_reducible refine Below.drew ?_) | (with_reducible refine Below.st ?_ ?_ _; rotate_left 1; (first | (dsimp only; omega) | omega | (simp; omega) | simp)) | (with_reducible refine Below.go ?_ hb1) | exact Below.refl _ _ | exact hbr))
              go_wp2
              refine bodyPost_ret (v := .tuple #[.int .i64 0, .int .i64 1]) (by simp [results, Tryd.results57, go_sem]) rfl ⟨?_, ?_⟩
              · rw [HFN.out, HST.out (by rw [HWF.out]; decide), HWF.out, okOr_bad (by decide)]
              · exact hbe
            · go_wp2_with fail
              refine (refLayerFault_any (lx ls t) _ _ ⟨_, _, _, _, _, _, _, _, _, _, rfl, x1, x2⟩).mono ?_
              rw [HF.out]
              rintro e w1 ⟨rfl, hb1⟩
              have hbe : Below w.heap.size w w1 := (by repeat (first | fail | (with_reducible exact Below.refl _ _) | (with_reducible exact hbr) | (with_reducible refine Below.al ?_ _) | (with_reducible refine Below.drN ?_ _) | (with_reducible refine Below.drew ?_) | (with_reducible refine Below.st ?_ ?_ _; rotate_left 1; (first | (dsimp only; omega) | omega | (simp; omega) | simp)) | (with_reducible refine Below.go ?_ hb1) | exact Below.refl _ _ | exact hbr))
              go_wp2
              refine bodyPost_ret (v := .tuple #[.int .i64 0, .int .i64 1]) (by simp [results, Tryd.results57, go_sem]) rfl ⟨?_, ?_⟩
              · rw [HFN.out, HST.out (by rw [HWF.out]; decide), HWF.out, okOr_bad (by decide)]
              · exact hbe
          · have h2 : 0 ≤ netW ls i t := by omega
            have h3 : netW ls i t ≤ 12 := by omega
            have HWF : Hid ((lx ls t).wideFault (netW ls i t) = if (lx ls t).takes (netW ls i t) then 0 else 2) := Lib.hid (by unfold Lay.wideFault; rw [if_neg (by simp [hf]), if_neg h1])
            clear hf h1
            by_cases hk : (lx ls t).takes (netW ls i t)
            · have HO : Hid ((lx ls t).wideOr (netW ls i t) = netW ls i (t + 1)) := Lib.hid (if_pos hk)
              have hz : (lx ls t).wideFault (netW ls i t) = 0 := by rw [HWF.out, if_pos hk]
              have hn0 : 0 ≤ netW ls i (t + 1) := (wide_bd hz).1
              have HZ := Lib.hid hz
              clear hz hk
              go_wp2_with fail
              refine (refLayerFault_any (lx ls t) _ _ ⟨_, _, _, _, _, _, _, _, _, _, rfl, x1, x2⟩).mono ?_
              rw [HF.out]
              rintro e w1 ⟨rfl, hb1⟩
              have d0 := cell_keep hb1 c0
              have d1 := cell_keep hb1 c1
              have d2 := cell_keep hb1 c2
              have d3 := cell_keep hb1 c3
              have d4 := cell_keep hb1 c4
              have d5 := cell_keep hb1 c5
              have d6 := cell_keep hb1 c6
              have y1 := x1.keep hb1
              have y2 := x2.keep hb1
              go_wp2_with fail
              refine (refWideOf_any (lx ls t) _ (netW ls i t) _ ⟨_, _, _, _, _, _, _, _, _, _, rfl, y1, y2⟩).mono ?_
              rw [HO.out]
              rintro e w2 ⟨rfl, hb2⟩
              have hbe : Below w.heap.size w w2 := (by repeat (first | fail | (with_reducible exact Below.refl _ _) | (with_reducible exact hbr) | (with_reducible refine Below.al ?_ _) | (with_reducible refine Below.drN ?_ _) | (with_reducible refine Below.drew ?_) | (with_reducible refine Below.st ?_ ?_ _; rotate_left 1; (first | (dsimp only; omega) | omega | (simp; omega) | simp)) | (with_reducible refine Below.go ?_ hb2) | (with_reducible refine Below.go ?_ hb1) | exact Below.refl _ _ | exact hbr))
              go_wp2
              go_roundw
              case rel => exact ⟨t + 1, by omega, by go_num, rfl, by rw [wideTo_succ HW.out]; exact HZ.out, hbe⟩
              case measure => simp [intOf]; omega
            · have HO : Hid ((lx ls t).wideOr (netW ls i t) = -1) := Lib.hid (if_neg hk)
              have HWG : Hid ((lx ls t).wideFault (netW ls i t) = 2) := Lib.hid (by rw [HWF.out, if_neg hk])
              clear hk
              go_wp2_with fail
              refine (refLayerFault_any (lx ls t) _ _ ⟨_, _, _, _, _, _, _, _, _, _, rfl, x1, x2⟩).mono ?_
              rw [HF.out]
              rintro e w1 ⟨rfl, hb1⟩
              have d0 := cell_keep hb1 c0
              have d1 := cell_keep hb1 c1
              have d2 := cell_keep hb1 c2
              have d3 := cell_keep hb1 c3
              have d4 := cell_keep hb1 c4
              have d5 := cell_keep hb1 c5
              have d6 := cell_keep hb1 c6
              have y1 := x1.keep hb1
              have y2 := x2.keep hb1
              go_wp2_with fail
              refine (refWideOf_any (lx ls t) _ (netW ls i t) _ ⟨_, _, _, _, _, _, _, _, _, _, rfl, y1, y2⟩).mono ?_
              rw [HO.out]
              rintro e w2 ⟨rfl, hb2⟩
              have hbe : Below w.heap.size w w2 := (by repeat (first | fail | (with_reducible exact Below.refl _ _) | (with_reducible exact hbr) | (with_reducible refine Below.al ?_ _) | (with_reducible refine Below.drN ?_ _) | (with_reducible refine Below.drew ?_) | (with_reducible refine Below.st ?_ ?_ _; rotate_left 1; (first | (dsimp only; omega) | omega | (simp; omega) | simp)) | (with_reducible refine Below.go ?_ hb2) | (with_reducible refine Below.go ?_ hb1) | exact Below.refl _ _ | exact hbr))
              go_wp2
              refine bodyPost_ret (v := .tuple #[.int .i64 0, .int .i64 2]) (by simp [results, Tryd.results57, go_sem]) rfl ⟨?_, ?_⟩
              · rw [HFN.out, HST.out (by rw [HWG.out]; decide), HWG.out, okOr_bad (by decide)]
              · exact hbe
        · have HWF : Hid ((lx ls t).wideFault (netW ls i t) = (lx ls t).fault) := Lib.hid (by unfold Lay.wideFault; rw [if_pos hf])
          have HN := Lib.hid hf
          have q1 : ((lx ls t).fault == 0) = false := by simp [hf]
          have q2 : ((lx ls t).fault != 0) = true := by simp [hf]
          clear hf
          go_wp2_with fail
          refine (refLayerFault_any (lx ls t) _ _ ⟨_, _, _, _, _, _, _, _, _, _, rfl, x1, x2⟩).mono ?_
          rintro e w1 ⟨rfl, hb1⟩
          have hbe : Below w.heap.size w w1 := (by repeat (first | fail | (with_reducible exact Below.refl _ _) | (with_reducible exact hbr) | (with_reducible refine Below.al ?_ _) | (with_reducible refine Below.drN ?_ _) | (with_reducible refine Below.drew ?_) | (with_reducible refine Below.st ?_ ?_ _; rotate_left 1; (first | (dsimp only; omega) | omega | (simp; omega) | simp)) | (with_reducible refine Below.go ?_ hb1) | exact Below.refl _ _ | exact hbr))
          go_wp2
          refine bodyPost_ret (v := .tuple #[.int .i64 0, .int .i64 (lx ls t).fault]) (by simp [results, Tryd.results57, go_sem]) rfl ⟨?_, ?_⟩
          · rw [HFN.out, HST.out (by rw [HWF.out]; exact HN.out), HWF.out, okOr_bad HN.out]
          · exact hbe
      · obtain rfl : t = n := by omega
        by_cases h1 : netW ls i t < 0 ∨ 12 < netW ls i t
        · have ht0 : t = 0 := by
            rcases Nat.eq_zero_or_pos t with h | h
            · exact h
            · have := netW_bd hw0 h; omega
          have HFF : Hid (netWideFault ls i = 1) := Lib.hid (by rw [HF0.out, if_pos ⟨ht0, by subst ht0; exact h1⟩])
          clear hw0 ht0
          rcases h1 with h1 | h1
          · go_wp2
            refine bodyPost_ret (v := .tuple #[.int .i64 0, .int .i64 1]) (by simp [results, Tryd.results57, go_sem]) rfl ⟨?_, ?_⟩
            · rw [HFF.out, okOr_bad (by decide)]
            · exact hbr
          · go_wp2
            refine bodyPost_ret (v := .tuple #[.int .i64 0, .int .i64 1]) (by simp [results, Tryd.results57, go_sem]) rfl ⟨?_, ?_⟩
            · rw [HFF.out, okOr_bad (by decide)]
            · exact hbr
        · have h2 : 0 ≤ netW ls i t := by omega
          have h3 : netW ls i t ≤ 12 := by omega
          have HFF : Hid (netWideFault ls i = 0) := Lib.hid (by
            rw [HF0.out, if_neg, hw0]
            rintro ⟨rfl, q⟩
            exact h1 q)
          clear hw0 h1
          go_wp2
          refine bodyPost_ret (v := .tuple #[.int .i64 (netW ls i t), .int .i64 0]) (by simp [results, Tryd.results57, go_sem]) rfl ⟨?_, ?_⟩
          · rw [HFF.out, okOr_ok rfl]
          · exact hbr
end Go.Proofs.YtopckalgpeapnaaDoor
