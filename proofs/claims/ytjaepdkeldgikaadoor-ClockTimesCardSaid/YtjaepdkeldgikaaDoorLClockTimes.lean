/- ClockTimes: when all acts of any plan are done, how long it is, and who does nothing how long, are the document's: the law returns true, and the input reads as it did. No condition. -/
import Derived.Test.YtjaepdkeldgikaaDoorCards
import Derived.Test.YtjaepdkeldgikaaDoorTie
import Derived.Test.YtjaepdkeldgikaaDoorRClk3
import Derived.Test.YtjaepdkeldgikaaDoorOpenP
import Derived.Test.YtjaepdkeldgikaaDoorOpenI
import Derived.Test.YtjaepdkeldgikaaDoorTold
import Derived.Deep.DeepHandedRow
import Derived.BigQuiet
set_option linter.unusedVariables false
set_option linter.unusedSimpArgs false
set_option linter.unusedSectionVars false
set_option maxRecDepth 100000
namespace Go.Proofs.YtjaepdkeldgikaaDoor.lawClockTimes
open Go.ChangeShapes Go.WideShapes Go.ChangeAt Go.RowKit Gal
set_option maxHeartbeats 8000000
theorem walk_bad (p : PlanD) (th bk : List Int) (M : Int) (a ta ba : Option Addr) (n k b o nt kt nb kb bt bb ot ob : Nat) (w : World) (h : RowAt Form.plan w anyB a n k b o p) (ht : IntsAt w ta nt kt bt ot th) (hb : IntsAt w ba nb kb bb ob bk) (hh : Handle w)
    (hf : timesFault M p th bk ≠ 0) : Calls Tryd.prog 7 #[.slice a n k, .int .i64 M, .slice ta nt kt, .slice ba nb kb] w fun e w' => e = .returned (.bool true) ∧ Below w.heap.size w w' := by
  by_cases hp : planFault M p = 0
  · have HP := Lib.hid hp
    by_cases hl : nt = n ∧ nb = n
    · obtain ⟨hl1, hl2⟩ := hl
      subst hl1
      subst hl2
      have hc : ¬ (costOk th nb ∧ costOk bk nb) := fun hc => hf (timesFault_ok hp ⟨by rw [ht.len, h.len], by rw [hb.len, h.len]⟩ (by rw [h.len]; exact hc))
      have HR : Hid (timesFault M p th bk = 1) := Lib.hid (timesFault_rng hp ⟨by rw [ht.len, h.len], by rw [hb.len, h.len]⟩ (by rw [h.len]; exact hc))
      have HC := Lib.hid hc
      clear hf hp hc
      go_enter Tryd.func7, Tryd.ntmps7
      go_wp2_with fail
      refine (clkTimes_rng p th bk M nb a ta ba k b o kt kb bt bb ot ob anyB w h ht hb HP.out HC.out).mono ?_
      rintro e w1 ⟨rfl, hb1⟩
      replace hh := hh.keep hb1
      go_wp2_with fail
      refine (refTimesFault_any p th bk M a ta ba _ k b o _ kt _ kb bt bb ot ob anyB _ (h.keep hb1) (ht.keep hb1) (hb.keep hb1)).mono ?_
      rintro e w2 ⟨rfl, hb2⟩
      replace hh := hh.keep hb2
      rw [HR.out]
      go_wp2_with fail
      refine (error_any _ _ _ hh).mono ?_
      rintro e w3 ⟨rfl, hb3⟩
      rw [decide_eq_true rfl]
      go_wp2
      go_ret
      exact ⟨rfl, (by repeat (first | fail | (with_reducible exact Below.refl _ _) | (with_reducible refine Below.al ?_ _) | (with_reducible refine Below.drN ?_ _) | (with_reducible refine Below.drew ?_) | (with_reducible refine Below.st ?_ ?_ _; rotate_left 1; (first | (dsimp only; omega) | omega | (simp; omega) | simp)) | (with_reducible refine Below.go ?_ hb3) | (with_reducible refine Below.go ?_ hb2) | (with_reducible refine Below.go ?_ hb1) | exact Below.refl _ _))⟩
    · have HR : Hid (timesFault M p th bk = 2) := Lib.hid (timesFault_len hp (by rw [ht.len, hb.len, h.len]; exact hl))
      have HC := Lib.hid hl
      clear hf hp hl
      go_enter Tryd.func7, Tryd.ntmps7
      go_wp2_with fail
      refine (clkTimes_len p th bk M n nt nb a ta ba k b o kt kb bt bb ot ob anyB w h ht hb HP.out HC.out).mono ?_
      rintro e w1 ⟨rfl, hb1⟩
      replace hh := hh.keep hb1
      go_wp2_with fail
      refine (refTimesFault_any p th bk M a ta ba _ k b o _ kt _ kb bt bb ot ob anyB _ (h.keep hb1) (ht.keep hb1) (hb.keep hb1)).mono ?_
      rintro e w2 ⟨rfl, hb2⟩
      replace hh := hh.keep hb2
      rw [HR.out]
      go_wp2_with fail
      refine (error_any _ _ _ hh).mono ?_
      rintro e w3 ⟨rfl, hb3⟩
      rw [decide_eq_true rfl]
      go_wp2
      go_ret
      exact ⟨rfl, (by repeat (first | fail | (with_reducible exact Below.refl _ _) | (with_reducible refine Below.al ?_ _) | (with_reducible refine Below.drN ?_ _) | (with_reducible refine Below.drew ?_) | (with_reducible refine Below.st ?_ ?_ _; rotate_left 1; (first | (dsimp only; omega) | omega | (simp; omega) | simp)) | (with_reducible refine Below.go ?_ hb3) | (with_reducible refine Below.go ?_ hb2) | (with_reducible refine Below.go ?_ hb1) | exact Below.refl _ _))⟩
  · have HR : Hid (timesFault M p th bk = planFault M p) := Lib.hid (timesFault_plan hp)
    have HP := Lib.hid hp
    obtain ⟨V, hV⟩ : ∃ V, planFault M p = V := ⟨_, rfl⟩
    have HV := Lib.hid hV
    have e1 : (V != 0) = true := by rw [← hV]; simp [hp]
    have hct := clkTimes_plan p M a ta ba n k b o nt kt nb kb anyB w h hp
    rw [hV] at hct
    clear hf hp hV
    go_enter Tryd.func7, Tryd.ntmps7
    go_wp2_with fail
    refine (hct).mono ?_
    rintro e w1 ⟨rfl, hb1⟩
    replace hh := hh.keep hb1
    go_wp2_with fail
    refine (refTimesFault_any p th bk M a ta ba _ k b o _ kt _ kb bt bb ot ob anyB _ (h.keep hb1) (ht.keep hb1) (hb.keep hb1)).mono ?_
    rintro e w2 ⟨rfl, hb2⟩
    replace hh := hh.keep hb2
    rw [HR.out, HV.out]
    go_wp2_with fail
    refine (error_any _ _ _ hh).mono ?_
    rintro e w3 ⟨rfl, hb3⟩
    rw [decide_eq_true rfl]
    go_wp2
    go_ret
    exact ⟨rfl, (by repeat (first | fail | (with_reducible exact Below.refl _ _) | (with_reducible refine Below.al ?_ _) | (with_reducible refine Below.drN ?_ _) | (with_reducible refine Below.drew ?_) | (with_reducible refine Below.st ?_ ?_ _; rotate_left 1; (first | (dsimp only; omega) | omega | (simp; omega) | simp)) | (with_reducible refine Below.go ?_ hb3) | (with_reducible refine Below.go ?_ hb2) | (with_reducible refine Below.go ?_ hb1) | exact Below.refl _ _))⟩
theorem walk_ok (p : PlanD) (th bk : List Int) (M : Int) (n : Nat) (a ta ba : Option Addr) (k b o kt kb bt bb ot ob : Nat) (w : World) (h : RowAt Form.plan w anyB a n k b o p) (ht : IntsAt w ta n kt bt ot th) (hb : IntsAt w ba n kb bb ob bk) (hh : Handle w)
    (hf : planFault M p = 0) (hth : costOk th n) (hbk : costOk bk n) : Calls Tryd.prog 7 #[.slice a n k, .int .i64 M, .slice ta n kt, .slice ba n kb] w fun e w' => e = .returned (.bool true) ∧ Below w.heap.size w w' := by
  obtain ⟨m, rfl⟩ := planFault_nat hf
  have HL := Lib.hid h.len
  have HF := Lib.hid hf
  have hok := planOk_of hf
  obtain ⟨⟨m1, m12⟩, n1, n6⟩ := hok.few
  rw [HL.out] at n1 n6
  have HR : Hid (timesFault m p th bk = 0) := Lib.hid (timesFault_ok hf ⟨by rw [ht.len, h.len], by rw [hb.len, h.len]⟩ (by rw [h.len]; exact ⟨hth, hbk⟩))
  have HOK := Lib.hid hok
  have HTH := Lib.hid hth
  have HBK := Lib.hid hbk
  have HLEN : Hid (∀ s, s < p.length → (px p s).length = 2 * m) := Lib.hid fun s hs => hok.len hs
  clear hf hok hth hbk
  go_enter Tryd.func7, Tryd.ntmps7
  go_wp2_with fail
  refine (clkTimes_ok p th bk m n a ta ba k b o kt kb bt bb ot ob anyB _ h ht hb HF.out HTH.out HBK.out).mono ?_
  rintro e w1 ⟨a1, k1, b1, nx, X, l, rfl, hrow, hinv, hfull, hb1⟩
  have hT := hinv.are (by rw [HL.out]; exact hfull)
  have HT := Lib.hid hT
  have HXB : Hid (∀ s, s < n → ∀ i, i < 2 * m → (ax (X s) i).2 ≤ 1000000000) := Lib.hid fun s hs i hi => by
    have h1 := hinv.bd s (by rw [HL.out]; exact hs) i (by rw [hfull s hs, HLEN.out s (by rw [HL.out]; exact hs)]; exact hi)
    have h2 : sumTo' nx p.length ≤ 24 * p.length := sum_le fun r hr => by rw [hfull r (by rw [← HL.out]; exact hr), HLEN.out r hr]; omega
    rw [HL.out] at h1 h2
    omega
  have hR : RowAt Form.plan w1 anyB a1 n k1 b1 0 (rowsOf n X) := hrow
  replace h := h.keep hb1
  replace ht := ht.keep hb1
  replace hb := hb.keep hb1
  replace hh := hh.keep hb1
  clear hinv hfull hrow hT
  go_wp2_with fail
  refine (refTimesFault_any p th bk m a ta ba n k b o n kt n kb bt bb ot ob anyB _ h ht hb).mono ?_
  rintro e w2 ⟨rfl, hb2⟩
  rw [HR.out]
  replace h := h.keep hb2
  replace ht := ht.keep hb2
  replace hb := hb.keep hb2
  replace hh := hh.keep hb2
  replace hR := hR.keep hb2
  go_wp2_with fail
  refine (error_any 0 0 _ hh).mono ?_
  rintro e w3 ⟨rfl, hb3⟩
  rw [decide_eq_true rfl]
  replace h := h.keep hb3
  replace ht := ht.keep hb3
  replace hb := hb.keep hb3
  replace hR := hR.keep hb3
  clear hh
  go_wp2_with fail
  refine (refTimesOf_ok p th bk X m n a ta ba k b o kt kb bt bb ot ob anyB _ h ht hb HF.out HTH.out HBK.out HT.out HXB.out).mono ?_
  rintro e w4 ⟨cap, b2, rfl, hW, hb4⟩
  replace h := h.keep hb4
  replace ht := ht.keep hb4
  replace hb := hb.keep hb4
  replace hR := hR.keep hb4
  go_wp2_with fail
  refine (refSpans_same (rowsOf n X) a1 _ n k1 b1 0 cap b2 0 anyB anyB _ hR hW).mono ?_
  rintro e w5 ⟨rfl, hb5⟩
  replace h := h.keep hb5
  replace ht := ht.keep hb5
  replace hb := hb.keep hb5
  replace hR := hR.keep hb5
  replace hW := hW.keep hb5
  have hbz : Below w.heap.size w w5 := (by repeat (first | fail | (with_reducible exact Below.refl _ _) | (with_reducible refine Below.al ?_ _) | (with_reducible refine Below.drN ?_ _) | (with_reducible refine Below.drew ?_) | (with_reducible refine Below.st ?_ ?_ _; rotate_left 1; (first | (dsimp only; omega) | omega | (simp; omega) | simp)) | (with_reducible refine Below.go ?_ hb5) | (with_reducible refine Below.go ?_ hb4) | (with_reducible refine Below.go ?_ hb3) | (with_reducible refine Below.go ?_ hb2) | (with_reducible refine Below.go ?_ hb1) | exact Below.refl _ _))
  clear hb1 hb2 hb3 hb4 hb5
  obtain ⟨A, hA⟩ : ∃ A, lngP 0 (rowsOf n X) = A := ⟨_, rfl⟩
  have HA : Hid (lngP 0 ((rowsOf n X).drop 0) = A) := Lib.hid hA
  have HAb : Hid (0 ≤ A ∧ A ≤ 1000000000) := Lib.hid (by
    rw [← hA]
    exact ⟨lngP_ge.1, rows_le (by omega) fun s hs i hi => HXB.out s hs i (by rw [HT.out.len s (by rw [HL.out]; exact hs), HLEN.out s (by rw [HL.out]; exact hs)] at hi; exact hi)⟩)
  have HRL : Hid ((rowsOf n X).length = n) := Lib.hid (by simp [rowsOf])
  clear hA
  go_wp2
  go_loopw [15, 16] (fun v i wr => ∃ (t : Nat) (x : Int) (nq : Nat), t ≤ n ∧ i = .int .i64 t ∧ v = .int .i64 x ∧ Hid (lngP x ((rowsOf n X).drop t) = A) ∧ wr = w5.drewN nq) (fun _ i _ => n - (intOf i).toNat)
  case atStart => exact ⟨0, 0, 0, Nat.zero_le _, rfl, rfl, HA, rfl⟩
  case round =>
    obtain ⟨t, x, nq, htn, rfl, rfl, hgo, rfl⟩ := hrel
    by_cases hlt : t < n
    · obtain ⟨a2, n2, k2, b3, o3, c0, hr1⟩ := plan_cell hW hlt
      rw [Nat.zero_add] at c0
      have hmx1 := hr1.max
      unfold maxLen at hmx1
      have HL1 := Lib.hid hr1.len
      have HGO : Hid (lngP (lngL x ((px (rowsOf n X) t).drop 0)) ((rowsOf n X).drop (t + 1)) = A) := Lib.hid (by rw [← hgo.out, drop_px (t := t) (by rw [HRL.out]; exact hlt)]; rfl)
      go_wp2
      go_loopw [15, 17] (fun v i wr => ∃ (j : Nat) (y : Int) (nr : Nat), j ≤ n2 ∧ i = .int .i64 j ∧ v = .int .i64 y ∧ Hid (lngP (lngL y ((px (rowsOf n X) t).drop j)) ((rowsOf n X).drop (t + 1)) = A) ∧ wr = w5.drewN nr) (fun _ i _ => n2 - (intOf i).toNat)
      case atStart => exact ⟨0, x, _, Nat.zero_le _, rfl, rfl, HGO, by first | rfl | exact World.drewN_drewN _ _ _⟩
      case round =>
        obtain ⟨j, y, nr, hj, rfl, rfl, hgo2, rfl⟩ := hrel
        by_cases hlt2 : j < n2
        · obtain rfl := hr1.ptr (by omega)
          obtain ⟨d0, d1⟩ := act_cells hr1 hlt2
          obtain ⟨⟨x0, x1⟩, hx⟩ : ∃ x, ax (px (rowsOf n X) t) j = x := ⟨_, rfl⟩
          rw [hx] at d0 d1
          dsimp only at d0 d1
          have hgo' := hgo2.out
          rw [drop_ax (by rw [HL1.out]; exact hlt2), hx] at hgo'
          unfold lngL at hgo'
          dsimp only at hgo'
          clear hx
          by_cases hm : y < x1
          · rw [show max y x1 = x1 by omega] at hgo'
            have HGN := Lib.hid hgo'
            have e3 : x1 > y := hm
            clear hgo'
            go_wp2
            go_roundw
            case rel => exact ⟨j + 1, x1, _, by omega, by go_num, rfl, HGN, (by first | rfl | exact World.drewN_drewN _ _ _)⟩
            case measure => simp [intOf]; omega
          · rw [show max y x1 = y by omega] at hgo'
            have HGN := Lib.hid hgo'
            have e3 : (x1 > y) = False := by simp; omega
            clear hgo' hm
            go_wp2
            go_roundw
            case rel => exact ⟨j + 1, y, _, by omega, by go_num, rfl, HGN, (by first | rfl | exact World.drewN_drewN _ _ _)⟩
            case measure => simp [intOf]; omega
        · obtain rfl : n2 = j := by omega
          have HNX : Hid (lngP y ((rowsOf n X).drop (t + 1)) = A) := Lib.hid (by
            have h1 := hgo2.out
            rw [List.drop_of_length_le (by rw [HL1.out]; exact Nat.le_refl _)] at h1
            exact h1)
          go_wp2
          go_roundw
          case rel => exact ⟨t + 1, y, _, by omega, by go_num, rfl, HNX, (by first | rfl | exact World.drewN_drewN _ _ _)⟩
          case measure => simp [intOf]; omega
    · obtain rfl : n = t := by omega
      have hV : x = A := by rw [← hgo.out, List.drop_of_length_le (by rw [HRL.out]; exact Nat.le_refl _)]; rfl
      subst hV
      clear hgo
      go_wp2_with fail
      refine (clkLong_any _ _ _ _ _ _ _ _ (hR.keep (by repeat (first | fail | (with_reducible exact Below.refl _ _) | (with_reducible refine Below.al ?_ _) | (with_reducible refine Below.drN ?_ _) | (with_reducible refine Below.drew ?_) | (with_reducible refine Below.st ?_ ?_ _; rotate_left 1; (first | (dsimp only; omega) | omega | (simp; omega) | simp)) | exact Below.refl _ _)))).mono ?_
      rintro e w6 ⟨rfl, hb6⟩
      have hb56 : Below w5.heap.size w5 w6 := (by repeat (first | fail | (with_reducible exact Below.refl _ _) | (with_reducible refine Below.al ?_ _) | (with_reducible refine Below.drN ?_ _) | (with_reducible refine Below.drew ?_) | (with_reducible refine Below.st ?_ ?_ _; rotate_left 1; (first | (dsimp only; omega) | omega | (simp; omega) | simp)) | (with_reducible refine Below.go ?_ hb6) | exact Below.refl _ _))
      rw [show lngP 0 (rowsOf n X) = x from HA.out]
      go_wp2_with fail
      refine (clkIdle_ok (rowsOf n X) _ _ _ _ _ _ _ (hR.keep hb56) n6 (fun r hr => by
        rw [rows_px hr, HT.out.len r (by rw [HL.out]; exact hr), HLEN.out r (by rw [HL.out]; exact hr)]
        omega) (by rw [show lngP 0 (rowsOf n X) = x from HA.out]; exact HAb.out) (fun r hr i hi => by
        have h1 := HT.out.rows_bd (by rw [HL.out]; exact HTH.out) (by rw [HL.out]; exact HBK.out) (s := r) (by rw [HL.out]; exact hr) (i := i) (by rw [HL.out]; exact hi)
        rw [HL.out, show lngP 0 (rowsOf n X) = x from HA.out] at h1
        have := HAb.out
        omega)).mono ?_
      rintro e w7 ⟨a5, k5, b5, rfl, hid, hb7⟩
      rw [show lngP 0 (rowsOf n X) = x from HA.out] at hid
      obtain rfl := hid.ptr (by omega)
      have hb57 : Below w5.heap.size w5 w7 := hb56.trans (hb7.mono hb56.size)
      replace ht := ht.keep hb57
      replace hb := hb.keep hb57
      replace hbz : Below w.heap.size w w7 := hbz.trans (hb57.mono hbz.size)
      obtain rfl := ht.ptr (by omega)
      obtain rfl := hb.ptr (by omega)
      have e1 : (x != x) = false := by simp
      have e2 : ((n : Int) != (n : Int)) = false := by simp
      clear hR hW hb6 hb7 hb56 hb57
      go_wp2
      go_loopw [20] (fun i wr => ∃ (t nq : Nat), t ≤ n ∧ i = .int .i64 t ∧ wr = w7.drewN nq) (fun i _ => n - (intOf i).toNat)
      case atStart => exact ⟨0, 0, Nat.zero_le _, rfl, by first | rfl | exact World.drewN_drewN _ _ _⟩
      case round =>
        obtain ⟨t, nq, htn, rfl, rfl⟩ := hrel
        by_cases hlt : t < n
        · have c0 := hid.cell t hlt
          have hbu := (HT.out.busy HOK.out (s := t) (by rw [HL.out]; exact hlt)).1
          rw [idle_ix hlt, hbu, Nat.zero_add] at c0
          have cx := ht.cell t hlt
          have cy := hb.cell t hlt
          have hx := HTH.out t hlt
          have hy := HBK.out t hlt
          obtain ⟨u, hue⟩ : ∃ u, ix th t = u := ⟨_, rfl⟩
          obtain ⟨v, hve⟩ : ∃ v, ix bk t = v := ⟨_, rfl⟩
          rw [hue] at cx hx c0
          rw [hve] at cy hy c0
          obtain ⟨hx1, hx2⟩ := hx
          obtain ⟨hy1, hy2⟩ := hy
          have hmz : 0 ≤ (m : Int) * (u + v) ∧ (m : Int) * (u + v) ≤ 24000000 := by
            constructor
            · exact Int.mul_nonneg (by omega) (by omega)
            · have h1 : (m : Int) * (u + v) ≤ 12 * (u + v) := Int.mul_le_mul_of_nonneg_right (by omega) (by omega)
              omega
          obtain ⟨Z, hZ⟩ : ∃ Z, (m : Int) * (u + v) = Z := ⟨_, rfl⟩
          rw [hZ] at hmz c0
          have hSw : IntKind.i64.wrap (u + v) = u + v := IntWalk.i64_in _ (by omega)
          have hZw : IntKind.i64.wrap ((m : Int) * (u + v)) = Z := by rw [hZ]; exact IntWalk.i64_in _ (by omega)
          have hDw : IntKind.i64.wrap (x - Z) = x - Z := IntWalk.i64_in _ (by have := HAb.out; omega)
          have e3 : (x - Z != x - Z) = false := by simp
          have s0 : (0 : Int) ≤ (t : Int) := by omega
          have s1 : (t : Int) < (n : Int) := by omega
          clear hue hve hmz hZ hbu
          go_wp2
          go_quiet (fail)
          clear hSw hZw hDw
          go_wp2
          go_roundw
          case rel => exact ⟨t + 1, _, by omega, by go_num, (by first | rfl | exact World.drewN_drewN _ _ _)⟩
          case measure => simp [intOf]; omega
        · obtain rfl : n = t := by omega
          go_wp2
          go_ret
          exact ⟨rfl, (by repeat (first | fail | (with_reducible exact Below.refl _ _) | (with_reducible exact hbz) | (with_reducible refine Below.al ?_ _) | (with_reducible refine Below.drN ?_ _) | (with_reducible refine Below.drew ?_) | (with_reducible refine Below.st ?_ ?_ _; rotate_left 1; (first | (dsimp only; omega) | omega | (simp; omega) | simp)) | exact Below.refl _ _ | exact hbz))⟩
theorem walk (p : PlanD) (v : Value) (M : Int) (th : List Int) (vt : Value) (bk : List Int) (vb : Value) (w : World) (hp : PlanV w v p) (hM : (Lit.int IntKind.i64 M).wf = true) (ht : IntsV w vt th) (hb : IntsV w vb bk) (hh : Handle w) :
    Calls Tryd.prog 7 #[v, .int .i64 M, vt, vb] w fun e w' => e = .returned (.bool true) ∧ Below w.heap.size w w' := by
  obtain ⟨a, n, k, b, o, rfl, h⟩ := hp
  obtain ⟨ta, nt, kt, bt, ot, rfl, ht⟩ := ht
  obtain ⟨ba, nb, kb, bb, ob, rfl, hb⟩ := hb
  by_cases hf : timesFault M p th bk = 0
  · have hp : planFault M p = 0 := by
      by_cases h1 : planFault M p = 0
      · exact h1
      · rw [timesFault_plan h1] at hf; exact hf
    have hl : th.length = p.length ∧ bk.length = p.length := by
      by_cases h1 : th.length = p.length ∧ bk.length = p.length
      · exact h1
      · rw [timesFault_len hp h1] at hf; exact absurd hf (by decide)
    have hc : costOk th p.length ∧ costOk bk p.length := by
      by_cases h1 : costOk th p.length ∧ costOk bk p.length
      · exact h1
      · rw [timesFault_rng hp hl h1] at hf; exact absurd hf (by decide)
    rw [ht.len, hb.len, h.len] at hl
    rw [h.len] at hc
    obtain ⟨hl1, hl2⟩ := hl
    subst hl1
    subst hl2
    exact walk_ok p th bk M nb a ta ba k b o kt kb bt bb ot ob w h ht hb hh hp hc.1 hc.2
  · exact walk_bad p th bk M a ta ba n k b o nt kt nb kb bt bb ot ob w h ht hb hh hf

theorem own : ownKnob Tryd.prog.godebug = none := by kernel_rfl
theorem laidOut : laidOutB Tryd.prog = true := by kernel_rfl
theorem et : Tryd.prog.globalNamed "errors.errorType" = some 0 := by kernel_rfl
theorem rt : (Tryd.prog.cutTypes.find? (·.1 == "internal/reflectlite.rtype")).map (·.2) = some 117 := by kernel_rfl
theorem oneRow : ((List.range 160).filter fun t => Tryd.prog.rowNamed t [101, 114, 114, 111, 114]) = [24] := by kernel_rfl
theorem tsize : Tryd.prog.types.size = 160 := by kernel_rfl
theorem handle_of_laid {W : World} (h : laidMetH Tryd.prog Rows.clockTimesRow.laid W) : Handle W := by
  have h' : laidMet Tryd.prog [] W ∧ handlesMet Tryd.prog Rows.clockTimesRow.laid W := h
  obtain ⟨name, u, ty, e1, e2, e3, e4, e5⟩ := h'.2 _ (List.mem_singleton.2 rfl)
  have en : name = [101, 114, 114, 111, 114] := (Option.some.inj e1).symm
  subst en
  obtain rfl := Option.some.inj (rt.symm.trans e2)
  have hm : ty ∈ (List.range 160).filter fun t => Tryd.prog.rowNamed t [101, 114, 114, 111, 114] := List.mem_filter.2 ⟨List.mem_range.2 (by rw [← tsize]; exact e3), e4⟩
  rw [oneRow] at hm
  obtain rfl := List.mem_singleton.1 hm
  have hh : typeHandle Tryd.prog 24 = .pointer (some ⟨1, 24, none⟩) := by kernel_rfl
  rw [hh] at e5
  simpa [Handle, handleV] using World.var?_cell et e5 0
noncomputable def laidWorld (os : Os) : World :=
  { World.holding Tryd.prog os ⟨#[], #[], []⟩ with heap := (World.holding Tryd.prog os ⟨#[], #[], []⟩).heap.modify 0 fun
      | .cells _ t frozen => .cells #[.iface 117 (.agg #[.pointer (some ⟨1, 24, none⟩)])] t frozen
      | o => o }
theorem laid_met (os : Os) : laidMetH Tryd.prog Rows.clockTimesRow.laid ((laidWorld os).forCall (fun _ _ => 0) ⟨#[], #[.slice none 0 0, .int .i64 0, .slice none 0 0, .slice none 0 0], []⟩).memory :=
  laidMetH_of_parts (laidMet_nil _ _) (by kernel_rfl)
theorem reads (os : Os) {H : Type} (enc : TypeId × Value → H) : ∃ places, DataW.whole enc Tryd.prog ((laidWorld os).forCall (fun _ _ => 0) ⟨#[], #[.slice none 0 0, .int .i64 0, .slice none 0 0, .slice none 0 0], []⟩).memory Tryd.f7.params.toList Rows.clockTimesSpec.vars false (#[.slice none 0 0, .int .i64 0, .slice none 0 0, .slice none 0 0] : Array Value).toList 8 = some ([.nil, .lit (.int .i64 0), .nil, .nil], [], places) :=
  ⟨[], by kernel_rfl⟩
set_option maxRecDepth 100000 in
set_option maxHeartbeats 1000000 in
theorem contract (H : Type) (enc : TypeId × Value → H) (W : World) (base : Nat) (args : Array Value) (ds gs : List (DataW H)) (before : List MemPlace)
    (hval0 : ∀ (j : Nat) t v, Tryd.f7.params[j]? = some t → args[j]? = some v → Value.okWide Tryd.prog W .any base t v)
    (hW : DataW.Whole enc Tryd.prog Tryd.f7.params.toList Rows.clockTimesSpec.vars false W args.toList ds gs before) (hh : Handle W) :
    Calls Tryd.prog 7 args W fun e W' => ∃ v, e = .returned v ∧ Rows.clockTimesSpec.post enc Tryd.prog Tryd.f7 false true false false W args v W' := by
  have hval := hval0
  have hW' := hW
  obtain ⟨p, q, hA0, hV, rfl, hfz, hnd⟩ := hW
  have hA : DataW.TrodAll enc Tryd.prog W 0 (fun _ => true) true Tryd.f7.params.toList args.toList ds p := hA0
  rw [Tryd.params7] at hA hval
  obtain ⟨v0, vs0, d0, ds0, p0, q0, hargs, rfl, rfl, h0, r0⟩ := trodAll_cons hA
  obtain ⟨v1, vs1, d1, ds1, p1, q1, rfl, rfl, rfl, h1, r1⟩ := trodAll_cons r0
  obtain ⟨v2, vs2, d2, ds2, p2, q2, rfl, rfl, rfl, h2, r2⟩ := trodAll_cons r1
  obtain ⟨v3, vs3, d3, ds3, p3, q3, rfl, rfl, rfl, h3, r3⟩ := trodAll_cons r2
  obtain ⟨rfl, rfl, rfl⟩ := trodAll_nil r3
  obtain rfl : args = #[v0, v1, v2, v3] := by cases args; simp_all
  obtain ⟨rfl, rfl⟩ := trodVars_none hV
  have k0 := h0
  have lt0 : ∀ x ∈ p0, x.block < W.heap.size := by obtain ⟨m, hm⟩ := k0; exact DataW.trod_lt m _ _ _ hm
  have k1 := h1
  have lt1 : ∀ x ∈ p1, x.block < W.heap.size := by obtain ⟨m, hm⟩ := k1; exact DataW.trod_lt m _ _ _ hm
  have k2 := h2
  have lt2 : ∀ x ∈ p2, x.block < W.heap.size := by obtain ⟨m, hm⟩ := k2; exact DataW.trod_lt m _ _ _ hm
  have k3 := h3
  have lt3 : ∀ x ∈ p3, x.block < W.heap.size := by obtain ⟨m, hm⟩ := k3; exact DataW.trod_lt m _ _ _ hm
  obtain ⟨a0, w0⟩ := open_llAct (hval 0 22 v0 rfl rfl) h0
  obtain ⟨a1, rfl, rfl, rfl, w1⟩ := open_int Tryd.underlying3 (hval 1 3 v1 rfl rfl) h1
  obtain ⟨a2, w2⟩ := open_lint (hval 2 39 v2 rfl rfl) h2
  obtain ⟨a3, w3⟩ := open_lint (hval 3 39 v3 rfl rfl) h3
  clear hA0 hval0
  refine (walk a0 v0 a1 a2 v2 a3 v3 W w0 w1 w2 w3 hh).mono fun e W' ⟨he, bel⟩ => ?_
  subst he
  exact ⟨_, rfl, _, _, _, [], _, [], hW', trodAll_mk1 (shut_bool Tryd.underlying4 _), (trodAll_cons_mk (Below.trod laidOut (by kernel_rfl) (of_decide_eq_true (by kernel_rfl)) k0 bel lt0) (trodAll_cons_mk (Below.trod laidOut (by kernel_rfl) (of_decide_eq_true (by kernel_rfl)) k1 bel lt1) (trodAll_cons_mk (Below.trod laidOut (by kernel_rfl) (of_decide_eq_true (by kernel_rfl)) k2 bel lt2) (trodAll_cons_mk (Below.trod laidOut (by kernel_rfl) (of_decide_eq_true (by kernel_rfl)) k3 bel lt3) trodAll_mk0)))), rfl, bel.frame _, fun h => by cases h⟩

set_option maxRecDepth 100000 in
theorem lifted (os : Os) (started : os.Started) (H : Type) (enc : TypeId × Value → H) (F : Stop.Interp) :
    ReturnsInHanded {} Tryd.checked os 7 .any ((OpenSpec.ofChange Rows.clockTimesSpec).preRow enc Tryd.prog Tryd.f7 Rows.clockTimesRow.domain false Rows.clockTimesRow.laid) (((OpenSpec.ofChange Rows.clockTimesSpec).at F).post enc Tryd.prog Tryd.f7 false true false false) := by
  obtain ⟨places, hx⟩ := reads os enc
  refine returnsInHanded_of_row (C := Tryd.checked) (s := OpenSpec.ofChange Rows.clockTimesSpec) own started (by kernel_rfl) Tryd.func7
    (witness_row_at (enc := enc) (C := Tryd.checked) false (laidWorld os) #[.slice none 0 0, .int .i64 0, .slice none 0 0, .slice none 0 0] rfl (by kernel_rfl) (by kernel_rfl) (by kernel_rfl)
      (OpenSpec.preRow_of_cond 8 hx (by kernel_rfl) (fun k hk => by cases hk) (by kernel_rfl) (laid_met os))) ?_
  intro W base args ds gs before hval hW _ _ _ hL _ _
  exact contract H enc W base args ds gs before hval hW (handle_of_laid hL)

theorem said : Rows.ClockTimesSaid :=
  OpenClaim.holds_of_cond 7 Tryd.f7 rfl rfl rfl rfl rfl rfl rfl ⟨rfl, rfl, rfl, rfl, rfl⟩ rfl rfl rfl rfl rfl (by kernel_rfl) Tryd.func7 (by kernel_rfl)
    (of_decide_eq_true (by kernel_rfl)) (by unfold Func.isWrapper; first | (rw [if_pos (by decide +kernel)]; kernel_rfl) | (rw [if_neg (by decide +kernel)]; exact ⟨rfl, rfl⟩))
    (fun os started H enc _ F => by rw [OpenClaim.pre_eq_preRow]; exact lifted os started H enc F)
theorem plain (f : FuncId) (fn : Func) (hf : Tryd.pinned.checked.prog.funcNamed Rows.clockTimesRow.func = some f) (hfn : Tryd.pinned.checked.prog.funcs[f]? = some fn) :
    Rows.clockTimesCard.stood.looks = Tryd.pinned.checked.prog.looks [] ∧ ∀ (j : Nat) t, fn.params[j]? = some t → Tryd.pinned.checked.prog.wantsStandIn t = false := by
  obtain rfl : f = 7 := Option.some.inj ((show Tryd.prog.funcNamed Rows.clockTimesRow.func = some 7 by kernel_rfl).symm.trans hf) |>.symm
  obtain rfl : fn = Tryd.f7 := (Option.some.inj (Tryd.func7.symm.trans hfn)).symm
  refine ⟨by kernel_rfl, fun j t ht => ?_⟩
  rw [Tryd.params7] at ht
  have hm := Array.mem_of_getElem? ht
  have hc : t = 22 ∨ t = 3 ∨ t = 39 ∨ t = 39 := by simpa using hm
  rcases hc with rfl | rfl | rfl | rfl
  · exact (show Tryd.prog.wantsStandIn 22 = false by kernel_rfl)
  · exact (show Tryd.prog.wantsStandIn 3 = false by kernel_rfl)
  · exact (show Tryd.prog.wantsStandIn 39 = false by kernel_rfl)
  · exact (show Tryd.prog.wantsStandIn 39 = false by kernel_rfl)
theorem proved : Rows.ClockTimesCardSaid :=
  Claim7.holds_tied_plain_at .later [] _ _ _ _ said (fun _ h => by cases h) (by kernel_rfl) (fun _ h => by cases h) clockTimes_row_tie rfl ⟨rfl, rfl⟩ (by kernel_rfl) rfl plain (by kernel_rfl)
#print axioms proved

end Go.Proofs.YtjaepdkeldgikaaDoor.lawClockTimes
