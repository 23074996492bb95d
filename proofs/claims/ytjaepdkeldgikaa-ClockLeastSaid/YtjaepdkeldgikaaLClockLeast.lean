/- ClockLeast: no plan is shorter than its dearest stage; no act begins ahead of what it waits for; no stage does two at once: the law returns true, and nothing that was there has changed. No condition. -/
import Derived.Test.YtjaepdkeldgikaaRows
import Derived.Test.YtjaepdkeldgikaaClk4
import Derived.Test.YtjaepdkeldgikaaPClk2
import Derived.Test.YtjaepdkeldgikaaOpenP
import Derived.Test.YtjaepdkeldgikaaOpenI
import Derived.Test.YtjaepdkeldgikaaActEq
import Derived.BigQuiet
set_option linter.unusedVariables false
set_option linter.unusedSimpArgs false
set_option linter.unusedSectionVars false
namespace Go.Proofs.Ytjaepdkeldgikaa.lawClockLeast
open Go.ChangeShapes Go.WideShapes Go.ChangeAt Go.RowKit Gal
set_option maxRecDepth 100000
set_option maxHeartbeats 4000000
theorem walk_ok (p : PlanD) (th bk : List Int) (M : Int) (n : Nat) (a ta ba : Option Addr) (k b o kt kb bt bb ot ob : Nat) (w : World) (h : RowAt Form.plan w anyB a n k b o p) (ht : IntsAt w ta n kt bt ot th) (hb : IntsAt w ba n kb bb ob bk) (hf : planFault M p = 0) (hc : costOk th n ∧ costOk bk n) :
    Calls Try.prog 7 #[.slice a n k, .int .i64 M, .slice ta n kt, .slice ba n kb] w fun e w' => e = .returned (.bool true) ∧ Below w.heap.size w w' := by
  obtain ⟨m, rfl⟩ := planFault_nat hf
  obtain ⟨hth, hbk⟩ := hc
  have HL := Lib.hid h.len
  have HF := Lib.hid hf
  have hok := planOk_of hf
  obtain ⟨⟨m1, m12⟩, n1, n6⟩ := hok.few
  rw [HL.out] at n1 n6
  have HOK := Lib.hid hok
  have HTH := Lib.hid hth
  have HBK := Lib.hid hbk
  have HLEN : Hid (∀ s, s < p.length → (px p s).length = 2 * m) := Lib.hid fun s hs => hok.len hs
  clear hf hok hth hbk
  go_enter Try.func7, Try.ntmps7
  go_wp2_with fail
  refine (planFact_any w).mono ?_
  rintro e w1 ⟨rfl, hb1⟩
  go_wp2_with fail
  refine (clkTimes_ok p th bk m n a ta ba k b o kt kb bt bb ot ob anyB _ (h.keep hb1) (ht.keep hb1) (hb.keep hb1) HF.out HTH.out HBK.out).mono ?_
  rintro e w2 ⟨a1, k1, b1, nx, X, l, rfl, hrow, hinv, hfull, hb2⟩
  have hT := hinv.are (by rw [HL.out]; exact hfull)
  have HT := Lib.hid hT
  have hR : RowAt Form.plan w2 anyB a1 n k1 b1 0 (rowsOf n X) := hrow
  clear hinv hfull hrow hT
  go_wp2_with fail
  refine (clkLong_any _ _ _ _ _ _ _ _ hR).mono ?_
  rintro e w4 ⟨rfl, hb3⟩
  have hbz : Below w.heap.size w w4 := (by repeat (first | fail | (with_reducible exact Below.refl _ _) | (with_reducible refine Below.al ?_ _) | (with_reducible refine Below.drN ?_ _) | (with_reducible refine Below.drew ?_) | (with_reducible refine Below.st ?_ ?_ _; rotate_left 1; (first | (dsimp only; omega) | omega | (simp; omega) | simp)) | (with_reducible refine Below.go ?_ hb3) | (with_reducible refine Below.go ?_ hb2) | (with_reducible refine Below.go ?_ hb1) | exact Below.refl _ _))
  replace hR := hR.keep hb3
  have hP := h.keep hbz
  have hA := ht.keep hbz
  have hB := hb.keep hbz
  obtain ⟨A, hlA⟩ : ∃ A, lngP 0 (rowsOf n X) = A := ⟨_, rfl⟩
  rw [hlA]
  have HA := Lib.hid hlA
  obtain rfl := hR.ptr (by omega)
  obtain rfl := hP.ptr (by omega)
  obtain rfl := hA.ptr (by omega)
  obtain rfl := hB.ptr (by omega)
  clear h ht hb hb1 hb2 hb3 hlA
  go_wp2
  go_loopw [13] (fun i wr => ∃ (t nq : Nat), t ≤ n ∧ i = .int .i64 t ∧ wr = w4.drewN nq) (fun i _ => n - (intOf i).toNat)
  case atStart => exact ⟨0, 0, Nat.zero_le _, rfl, rfl⟩
  case round =>
    obtain ⟨t, nq, htn, rfl, rfl⟩ := hrel
    by_cases hlt : t < n
    · have cx := hA.cell t hlt
      have cy := hB.cell t hlt
      have hx := HTH.out t hlt
      have hy := HBK.out t hlt
      have hls := HT.out.least HOK.out (s := t) (by rw [HL.out]; exact hlt)
      rw [HL.out, HA.out] at hls
      obtain ⟨x, hxe⟩ : ∃ x, ix th t = x := ⟨_, rfl⟩
      obtain ⟨y, hye⟩ : ∃ y, ix bk t = y := ⟨_, rfl⟩
      rw [hxe] at cx hx hls
      rw [hye] at cy hy hls
      obtain ⟨hx1, hx2⟩ := hx
      obtain ⟨hy1, hy2⟩ := hy
      have hmz : 0 ≤ (m : Int) * (x + y) ∧ (m : Int) * (x + y) ≤ 24000000 := by
        constructor
        · exact Int.mul_nonneg (by omega) (by omega)
        · have h1 : (m : Int) * (x + y) ≤ 12 * (x + y) := Int.mul_le_mul_of_nonneg_right (by omega) (by omega)
          omega
      obtain ⟨Z, hZ⟩ : ∃ Z, (m : Int) * (x + y) = Z := ⟨_, rfl⟩
      rw [hZ] at hmz hls
      have hSw : IntKind.i64.wrap (x + y) = x + y := IntWalk.i64_in _ (by omega)
      have hZw : IntKind.i64.wrap ((m : Int) * (x + y)) = Z := by rw [hZ]; exact IntWalk.i64_in _ (by omega)
      have e1 : (A < Z) = False := by simp; omega
      obtain ⟨a2, n2, k2, b2, o2, c2, hr2⟩ := plan_cell hR hlt
      rw [Nat.zero_add] at c2
      have HL2 := Lib.hid hr2.len
      obtain rfl : n2 = 2 * m := by rw [← HL2.out, rows_px hlt, HT.out.len t (by rw [HL.out]; exact hlt)]; exact HLEN.out t (by rw [HL.out]; exact hlt)
      have e2 : (((2 * m : Nat) : Int) != 2 * (m : Int)) = false := by simp
      have s0 : (0 : Int) ≤ (t : Int) := by omega
      have s1 : (t : Int) < (n : Int) := by omega
      obtain rfl := hr2.ptr (by omega)
      obtain ⟨a3, n3, k3, b3, o3, c3, hr3⟩ := plan_cell hP hlt
      have HL3 := Lib.hid hr3.len
      obtain rfl : n3 = 2 * m := by rw [← HL3.out]; exact HLEN.out t (by rw [HL.out]; exact hlt)
      obtain rfl := hr3.ptr (by omega)
      clear hxe hye hmz hZ
      go_wp2
      go_quiet (fail)
      go_wp2
      clear hSw hZw hls hx1 hx2 hy1 hy2 cx cy e1 e2
      go_loopw [14] (fun j wr => ∃ (i nr : Nat), i ≤ 2 * m ∧ j = .int .i64 i ∧ wr = w4.drewN nr) (fun j _ => 2 * m - (intOf j).toNat)
      case atStart => exact ⟨0, _, Nat.zero_le _, rfl, by first | rfl | exact World.drewN_drewN _ _ _⟩
      case round =>
        obtain ⟨i, nr, hi, rfl, rfl⟩ := hrel
        by_cases hil : i < 2 * m
        · obtain ⟨d0, d1⟩ := act_cells hr2 hil
          obtain ⟨d2, d3⟩ := act_cells hr3 hil
          rw [rows_px hlt] at d0 d1
          obtain ⟨⟨F, G⟩, hx⟩ : ∃ x, ax (X t) i = x := ⟨_, rfl⟩
          obtain ⟨⟨x0, x1⟩, hy⟩ : ∃ x, ax (px p t) i = x := ⟨_, rfl⟩
          have hnn := (HT.out.from_nn (by rw [HL.out]; exact HTH.out) (by rw [HL.out]; exact HBK.out) (s := t) (by rw [HL.out]; exact hlt) i (by rw [HLEN.out t (by rw [HL.out]; exact hlt)]; exact hil)).1
          have hge := (HT.out.from_ge (s := t) (i := i) (by rw [HL.out]; exact hlt) (by rw [HLEN.out t (by rw [HL.out]; exact hlt)]; exact hil)).1
          obtain ⟨dt, hdep, hdl⟩ := HT.out.dep_le (s := t) (i := i) (by rw [HL.out]; exact hlt) (by rw [HLEN.out t (by rw [HL.out]; exact hlt)]; exact hil)
          rw [hx] at d0 d1 hnn hge hdl
          rw [hy] at d2 d3 hdep
          dsimp only at d0 d1 d2 d3 hnn hge hdl
          have i0 : (0 : Int) ≤ (i : Int) := by omega
          have i1 : (i : Int) < ((2 * m : Nat) : Int) := by omega
          have f1 : (F < 0) = False := by simp; omega
          have HX := Lib.hid hx
          have HY := Lib.hid hy
          rcases Nat.eq_zero_or_pos i with hz | hz
          · obtain rfl : i = 0 := hz
            simp only [Nat.zero_mul, Nat.add_zero] at d0 d1 d2 d3
            clear hge
            go_wp2
            go_quiet (fail)
            by_cases hk : x0 = 2
            · have e4 : (x0 == 2) = true := by simp [hk]
              unfold DepTo at hdep
              rw [if_pos hk, HL.out] at hdep
              by_cases hb1 : t + 1 = n
              · have e5 : (t : Int) + 1 ≥ (n : Int) := by omega
                have e6 : ((t : Int) + 1 < 0) = False := by simp; omega
                clear hk hdep hdl hb1
                go_wp2
                go_roundw
                case rel => exact ⟨0 + 1, _, by omega, by go_num, (by first | rfl | exact World.drewN_drewN _ _ _)⟩
                case measure => simp [intOf]; omega
              · rw [if_neg hb1] at hdep
                obtain ⟨j, hj1, hj2, hj3⟩ := hdep
                have hdep : ∃ j, isAt p (t + 1) (x0, x1) j ∧ (ax (X (t + 1)) j).2 ≤ F := ⟨j, hj2, by rw [← hj3]; exact hdl⟩
                clear hk hdl hj1 hj2 hj3
                obtain ⟨a6, n6', k6, b6, o6, c6, hr6⟩ := plan_cell hP (t := t + 1) (by omega)
                obtain ⟨a7, n7, k7, b7, o7, c7, hr7⟩ := plan_cell hR (t := t + 1) (by omega)
                rw [Nat.zero_add] at c7
                have HL6 := Lib.hid hr6.len
                have HL7 := Lib.hid hr7.len
                obtain rfl : n6' = 2 * m := by rw [← HL6.out]; exact HLEN.out (t + 1) (by rw [HL.out]; omega)
                obtain rfl : n7 = 2 * m := by rw [← HL7.out, rows_px (by omega), HT.out.len (t + 1) (by rw [HL.out]; omega)]; exact HLEN.out (t + 1) (by rw [HL.out]; omega)
                obtain rfl := hr6.ptr (by omega)
                obtain rfl := hr7.ptr (by omega)
                obtain ⟨kk, hkk⟩ : ∃ kk : Nat, t + 1 = kk := ⟨_, rfl⟩
                have hkI : (t : Int) + 1 = (kk : Int) := by omega
                rw [hkk] at c6 c7 hr6 hr7 hdep
                have HKK := Lib.hid hkk
                have k0 : (0 : Int) ≤ (kk : Int) := by omega
                have k1 : (kk : Int) < (n : Int) := by omega
                have k2 : ((kk : Int) < 0) = False := by simp
                have k3 : ((kk : Int) ≥ (n : Int)) = False := by simp; omega
                have HDEP := Lib.hid hdep
                clear hkk hdep
                go_wp2
                go_loopw [16] (fun j wr => ∃ (y nr : Nat), y ≤ 2 * m ∧ j = .int .i64 y ∧ wr = w4.drewN nr) (fun j _ => 2 * m - (intOf j).toNat)
                case atStart => exact ⟨0, _, Nat.zero_le _, rfl, by first | rfl | exact World.drewN_drewN _ _ _⟩
                case round =>
                  obtain ⟨y, nr, hy, rfl, rfl⟩ := hrel
                  by_cases hyl : y < 2 * m
                  · obtain ⟨g0, g1⟩ := act_cells hr6 hyl
                    obtain ⟨g2, g3⟩ := act_cells hr7 hyl
                    obtain ⟨⟨z0, z1⟩, hz⟩ : ∃ x, ax (px p kk) y = x := ⟨_, rfl⟩
                    obtain ⟨⟨y0, y1⟩, hy2⟩ : ∃ x, ax (px (rowsOf n X) kk) y = x := ⟨_, rfl⟩
                    rw [hz] at g0 g1
                    rw [hy2] at g2 g3
                    dsimp only at g0 g1 g2 g3
                    by_cases heq : z0 = x0 ∧ z1 = x1
                    · obtain ⟨rfl, rfl⟩ := heq
                      have hle : y1 ≤ F := by
                        obtain ⟨j, hj2, hj3⟩ := HDEP.out
                        have hjy : j = y := isAt_inj (HOK.out.acts kk (by rw [HL.out]; omega)) hj2 ⟨by rw [HLEN.out kk (by rw [HL.out]; omega)]; exact hyl, hz⟩
                        subst hjy
                        rw [rows_px (by omega)] at hy2
                        rw [hy2] at hj3
                        exact hj3
                      have heqv : ∀ W : World, (binOp .eql 31 (.agg #[.int .i64 z0, .int .i64 z1]) (.agg #[.int .i64 z0, .int .i64 z1])).run Try.prog W = .ok (.bool true) W := fun W => by rw [act_eqls]; simp
                      have e7 : (y1 > F) = False := by simp; omega
                      clear hz hy2
                      go_wp2
                      go_quiet (fail)
                      go_wp2
                      go_roundw
                      case rel => exact ⟨y + 1, _, by omega, by go_num, (by first | rfl | exact World.drewN_drewN _ _ _)⟩
                      case measure => simp [intOf]; omega
                    · have heqv : ∀ W : World, (binOp .eql 31 (.agg #[.int .i64 z0, .int .i64 z1]) (.agg #[.int .i64 x0, .int .i64 x1])).run Try.prog W = .ok (.bool false) W := fun W => by
                        rw [act_eqls]
                        by_cases q0 : z0 = x0
                        · have q1 : ¬ z1 = x1 := fun q1 => heq ⟨q0, q1⟩
                          simp [q0, q1]
                        · simp [q0]
                      clear hz hy2
                      go_wp2
                      go_quiet (fail)
                      go_wp2
                      go_roundw
                      case rel => exact ⟨y + 1, _, by omega, by go_num, (by first | rfl | exact World.drewN_drewN _ _ _)⟩
                      case measure => simp [intOf]; omega
                  · obtain rfl : y = 2 * m := by omega
                    go_wp2
                    go_roundw
                    case rel => exact ⟨0 + 1, _, by omega, by go_num, (by first | rfl | exact World.drewN_drewN _ _ _)⟩
                    case measure => simp [intOf]; omega
            · have e4 : (x0 == 2) = false := by simp [hk]
              unfold DepTo at hdep
              rw [if_neg hk] at hdep
              by_cases hb1 : t = 0
              · have e6 : (t : Int) - 1 < 0 := by omega
                clear hk hdep hdl hb1
                go_wp2
                go_roundw
                case rel => exact ⟨0 + 1, _, by omega, by go_num, (by first | rfl | exact World.drewN_drewN _ _ _)⟩
                case measure => simp [intOf]; omega
              · rw [if_neg hb1] at hdep
                obtain ⟨j, hj1, hj2, hj3⟩ := hdep
                have hdep : ∃ j, isAt p (t - 1) (x0, x1) j ∧ (ax (X (t - 1)) j).2 ≤ F := ⟨j, hj2, by rw [← hj3]; exact hdl⟩
                clear hk hdl hj1 hj2 hj3
                obtain ⟨a6, n6', k6, b6, o6, c6, hr6⟩ := plan_cell hP (t := t - 1) (by omega)
                obtain ⟨a7, n7, k7, b7, o7, c7, hr7⟩ := plan_cell hR (t := t - 1) (by omega)
                rw [Nat.zero_add] at c7
                have HL6 := Lib.hid hr6.len
                have HL7 := Lib.hid hr7.len
                obtain rfl : n6' = 2 * m := by rw [← HL6.out]; exact HLEN.out (t - 1) (by rw [HL.out]; omega)
                obtain rfl : n7 = 2 * m := by rw [← HL7.out, rows_px (by omega), HT.out.len (t - 1) (by rw [HL.out]; omega)]; exact HLEN.out (t - 1) (by rw [HL.out]; omega)
                obtain rfl := hr6.ptr (by omega)
                obtain rfl := hr7.ptr (by omega)
                obtain ⟨kk, hkk⟩ : ∃ kk : Nat, t - 1 = kk := ⟨_, rfl⟩
                have hkI : (t : Int) - 1 = (kk : Int) := by omega
                rw [hkk] at c6 c7 hr6 hr7 hdep
                have HKK := Lib.hid hkk
                have k0 : (0 : Int) ≤ (kk : Int) := by omega
                have k1 : (kk : Int) < (n : Int) := by omega
                have k2 : ((kk : Int) < 0) = False := by simp
                have k3 : ((kk : Int) ≥ (n : Int)) = False := by simp; omega
                have HDEP := Lib.hid hdep
                clear hkk hdep
                go_wp2
                go_loopw [16] (fun j wr => ∃ (y nr : Nat), y ≤ 2 * m ∧ j = .int .i64 y ∧ wr = w4.drewN nr) (fun j _ => 2 * m - (intOf j).toNat)
                case atStart => exact ⟨0, _, Nat.zero_le _, rfl, by first | rfl | exact World.drewN_drewN _ _ _⟩
                case round =>
                  obtain ⟨y, nr, hy, rfl, rfl⟩ := hrel
                  by_cases hyl : y < 2 * m
                  · obtain ⟨g0, g1⟩ := act_cells hr6 hyl
                    obtain ⟨g2, g3⟩ := act_cells hr7 hyl
                    obtain ⟨⟨z0, z1⟩, hz⟩ : ∃ x, ax (px p kk) y = x := ⟨_, rfl⟩
                    obtain ⟨⟨y0, y1⟩, hy2⟩ : ∃ x, ax (px (rowsOf n X) kk) y = x := ⟨_, rfl⟩
                    rw [hz] at g0 g1
                    rw [hy2] at g2 g3
                    dsimp only at g0 g1 g2 g3
                    by_cases heq : z0 = x0 ∧ z1 = x1
                    · obtain ⟨rfl, rfl⟩ := heq
                      have hle : y1 ≤ F := by
                        obtain ⟨j, hj2, hj3⟩ := HDEP.out
                        have hjy : j = y := isAt_inj (HOK.out.acts kk (by rw [HL.out]; omega)) hj2 ⟨by rw [HLEN.out kk (by rw [HL.out]; omega)]; exact hyl, hz⟩
                        subst hjy
                        rw [rows_px (by omega)] at hy2
                        rw [hy2] at hj3
                        exact hj3
                      have heqv : ∀ W : World, (binOp .eql 31 (.agg #[.int .i64 z0, .int .i64 z1]) (.agg #[.int .i64 z0, .int .i64 z1])).run Try.prog W = .ok (.bool true) W := fun W => by rw [act_eqls]; simp
                      have e7 : (y1 > F) = False := by simp; omega
                      clear hz hy2
                      go_wp2
                      go_quiet (fail)
                      go_wp2
                      go_roundw
                      case rel => exact ⟨y + 1, _, by omega, by go_num, (by first | rfl | exact World.drewN_drewN _ _ _)⟩
                      case measure => simp [intOf]; omega
                    · have heqv : ∀ W : World, (binOp .eql 31 (.agg #[.int .i64 z0, .int .i64 z1]) (.agg #[.int .i64 x0, .int .i64 x1])).run Try.prog W = .ok (.bool false) W := fun W => by
                        rw [act_eqls]
                        by_cases q0 : z0 = x0
                        · have q1 : ¬ z1 = x1 := fun q1 => heq ⟨q0, q1⟩
                          simp [q0, q1]
                        · simp [q0]
                      clear hz hy2
                      go_wp2
                      go_quiet (fail)
                      go_wp2
                      go_roundw
                      case rel => exact ⟨y + 1, _, by omega, by go_num, (by first | rfl | exact World.drewN_drewN _ _ _)⟩
                      case measure => simp [intOf]; omega
                  · obtain rfl : y = 2 * m := by omega
                    go_wp2
                    go_roundw
                    case rel => exact ⟨0 + 1, _, by omega, by go_num, (by first | rfl | exact World.drewN_drewN _ _ _)⟩
                    case measure => simp [intOf]; omega
          · obtain ⟨z, hzz⟩ : ∃ z, i - 1 = z := ⟨_, rfl⟩
            have hzy : (i : Int) - 1 = (z : Int) := by omega
            have hzn : z < 2 * m := by omega
            have z1 : (z : Int) < ((2 * m : Nat) : Int) := by omega
            have z0 : (0 : Int) ≤ (z : Int) := by omega
            have hzw : IntKind.i64.wrap ((i : Int) - 1) = (z : Int) := by rw [hzy]; exact IntWalk.i64_in _ (by omega)
            obtain ⟨_, g1⟩ := act_cells hr2 hzn
            rw [rows_px hlt] at g1
            have hge2 : (ax (X t) z).2 ≤ F := by have := hge; unfold prevTo at this; rw [if_neg (by omega), hzz] at this; exact this
            obtain ⟨G1, hG1⟩ : ∃ G1, (ax (X t) z).2 = G1 := ⟨_, rfl⟩
            rw [hG1] at g1 hge2
            have f2 : (F < G1) = False := by simp; omega
            have f3 : (i : Int) > 0 := by omega
            clear hge hG1 hzz
            go_wp2
            go_quiet (fail)
            by_cases hk : x0 = 2
            · have e4 : (x0 == 2) = true := by simp [hk]
              unfold DepTo at hdep
              rw [if_pos hk, HL.out] at hdep
              by_cases hb1 : t + 1 = n
              · have e5 : (t : Int) + 1 ≥ (n : Int) := by omega
                have e6 : ((t : Int) + 1 < 0) = False := by simp; omega
                clear hk hdep hdl hb1
                go_wp2
                go_roundw
                case rel => exact ⟨i + 1, _, by omega, by go_num, (by first | rfl | exact World.drewN_drewN _ _ _)⟩
                case measure => simp [intOf]; omega
              · rw [if_neg hb1] at hdep
                obtain ⟨j, hj1, hj2, hj3⟩ := hdep
                have hdep : ∃ j, isAt p (t + 1) (x0, x1) j ∧ (ax (X (t + 1)) j).2 ≤ F := ⟨j, hj2, by rw [← hj3]; exact hdl⟩
                clear hk hdl hj1 hj2 hj3
                obtain ⟨a6, n6', k6, b6, o6, c6, hr6⟩ := plan_cell hP (t := t + 1) (by omega)
                obtain ⟨a7, n7, k7, b7, o7, c7, hr7⟩ := plan_cell hR (t := t + 1) (by omega)
                rw [Nat.zero_add] at c7
                have HL6 := Lib.hid hr6.len
                have HL7 := Lib.hid hr7.len
                obtain rfl : n6' = 2 * m := by rw [← HL6.out]; exact HLEN.out (t + 1) (by rw [HL.out]; omega)
                obtain rfl : n7 = 2 * m := by rw [← HL7.out, rows_px (by omega), HT.out.len (t + 1) (by rw [HL.out]; omega)]; exact HLEN.out (t + 1) (by rw [HL.out]; omega)
                obtain rfl := hr6.ptr (by omega)
                obtain rfl := hr7.ptr (by omega)
                obtain ⟨kk, hkk⟩ : ∃ kk : Nat, t + 1 = kk := ⟨_, rfl⟩
                have hkI : (t : Int) + 1 = (kk : Int) := by omega
                rw [hkk] at c6 c7 hr6 hr7 hdep
                have HKK := Lib.hid hkk
                have k0 : (0 : Int) ≤ (kk : Int) := by omega
                have k1 : (kk : Int) < (n : Int) := by omega
                have k2 : ((kk : Int) < 0) = False := by simp
                have k3 : ((kk : Int) ≥ (n : Int)) = False := by simp; omega
                have HDEP := Lib.hid hdep
                clear hkk hdep
                go_wp2
                go_loopw [16] (fun j wr => ∃ (y nr : Nat), y ≤ 2 * m ∧ j = .int .i64 y ∧ wr = w4.drewN nr) (fun j _ => 2 * m - (intOf j).toNat)
                case atStart => exact ⟨0, _, Nat.zero_le _, rfl, by first | rfl | exact World.drewN_drewN _ _ _⟩
                case round =>
                  obtain ⟨y, nr, hy, rfl, rfl⟩ := hrel
                  by_cases hyl : y < 2 * m
                  · obtain ⟨g0, g1⟩ := act_cells hr6 hyl
                    obtain ⟨g2, g3⟩ := act_cells hr7 hyl
                    obtain ⟨⟨z0, z1⟩, hz⟩ : ∃ x, ax (px p kk) y = x := ⟨_, rfl⟩
                    obtain ⟨⟨y0, y1⟩, hy2⟩ : ∃ x, ax (px (rowsOf n X) kk) y = x := ⟨_, rfl⟩
                    rw [hz] at g0 g1
                    rw [hy2] at g2 g3
                    dsimp only at g0 g1 g2 g3
                    by_cases heq : z0 = x0 ∧ z1 = x1
                    · obtain ⟨rfl, rfl⟩ := heq
                      have hle : y1 ≤ F := by
                        obtain ⟨j, hj2, hj3⟩ := HDEP.out
                        have hjy : j = y := isAt_inj (HOK.out.acts kk (by rw [HL.out]; omega)) hj2 ⟨by rw [HLEN.out kk (by rw [HL.out]; omega)]; exact hyl, hz⟩
                        subst hjy
                        rw [rows_px (by omega)] at hy2
                        rw [hy2] at hj3
                        exact hj3
                      have heqv : ∀ W : World, (binOp .eql 31 (.agg #[.int .i64 z0, .int .i64 z1]) (.agg #[.int .i64 z0, .int .i64 z1])).run Try.prog W = .ok (.bool true) W := fun W => by rw [act_eqls]; simp
                      have e7 : (y1 > F) = False := by simp; omega
                      clear hz hy2
                      go_wp2
                      go_quiet (fail)
                      go_wp2
                      go_roundw
                      case rel => exact ⟨y + 1, _, by omega, by go_num, (by first | rfl | exact World.drewN_drewN _ _ _)⟩
                      case measure => simp [intOf]; omega
                    · have heqv : ∀ W : World, (binOp .eql 31 (.agg #[.int .i64 z0, .int .i64 z1]) (.agg #[.int .i64 x0, .int .i64 x1])).run Try.prog W = .ok (.bool false) W := fun W => by
                        rw [act_eqls]
                        by_cases q0 : z0 = x0
                        · have q1 : ¬ z1 = x1 := fun q1 => heq ⟨q0, q1⟩
                          simp [q0, q1]
                        · simp [q0]
                      clear hz hy2
                      go_wp2
                      go_quiet (fail)
                      go_wp2
                      go_roundw
                      case rel => exact ⟨y + 1, _, by omega, by go_num, (by first | rfl | exact World.drewN_drewN _ _ _)⟩
                      case measure => simp [intOf]; omega
                  · obtain rfl : y = 2 * m := by omega
                    go_wp2
                    go_roundw
                    case rel => exact ⟨i + 1, _, by omega, by go_num, (by first | rfl | exact World.drewN_drewN _ _ _)⟩
                    case measure => simp [intOf]; omega
            · have e4 : (x0 == 2) = false := by simp [hk]
              unfold DepTo at hdep
              rw [if_neg hk] at hdep
              by_cases hb1 : t = 0
              · have e6 : (t : Int) - 1 < 0 := by omega
                clear hk hdep hdl hb1
                go_wp2
                go_roundw
                case rel => exact ⟨i + 1, _, by omega, by go_num, (by first | rfl | exact World.drewN_drewN _ _ _)⟩
                case measure => simp [intOf]; omega
              · rw [if_neg hb1] at hdep
                obtain ⟨j, hj1, hj2, hj3⟩ := hdep
                have hdep : ∃ j, isAt p (t - 1) (x0, x1) j ∧ (ax (X (t - 1)) j).2 ≤ F := ⟨j, hj2, by rw [← hj3]; exact hdl⟩
                clear hk hdl hj1 hj2 hj3
                obtain ⟨a6, n6', k6, b6, o6, c6, hr6⟩ := plan_cell hP (t := t - 1) (by omega)
                obtain ⟨a7, n7, k7, b7, o7, c7, hr7⟩ := plan_cell hR (t := t - 1) (by omega)
                rw [Nat.zero_add] at c7
                have HL6 := Lib.hid hr6.len
                have HL7 := Lib.hid hr7.len
                obtain rfl : n6' = 2 * m := by rw [← HL6.out]; exact HLEN.out (t - 1) (by rw [HL.out]; omega)
                obtain rfl : n7 = 2 * m := by rw [← HL7.out, rows_px (by omega), HT.out.len (t - 1) (by rw [HL.out]; omega)]; exact HLEN.out (t - 1) (by rw [HL.out]; omega)
                obtain rfl := hr6.ptr (by omega)
                obtain rfl := hr7.ptr (by omega)
                obtain ⟨kk, hkk⟩ : ∃ kk : Nat, t - 1 = kk := ⟨_, rfl⟩
                have hkI : (t : Int) - 1 = (kk : Int) := by omega
                rw [hkk] at c6 c7 hr6 hr7 hdep
                have HKK := Lib.hid hkk
                have k0 : (0 : Int) ≤ (kk : Int) := by omega
                have k1 : (kk : Int) < (n : Int) := by omega
                have k2 : ((kk : Int) < 0) = False := by simp
                have k3 : ((kk : Int) ≥ (n : Int)) = False := by simp; omega
                have HDEP := Lib.hid hdep
                clear hkk hdep
                go_wp2
                go_loopw [16] (fun j wr => ∃ (y nr : Nat), y ≤ 2 * m ∧ j = .int .i64 y ∧ wr = w4.drewN nr) (fun j _ => 2 * m - (intOf j).toNat)
                case atStart => exact ⟨0, _, Nat.zero_le _, rfl, by first | rfl | exact World.drewN_drewN _ _ _⟩
                case round =>
                  obtain ⟨y, nr, hy, rfl, rfl⟩ := hrel
                  by_cases hyl : y < 2 * m
                  · obtain ⟨g0, g1⟩ := act_cells hr6 hyl
                    obtain ⟨g2, g3⟩ := act_cells hr7 hyl
                    obtain ⟨⟨z0, z1⟩, hz⟩ : ∃ x, ax (px p kk) y = x := ⟨_, rfl⟩
                    obtain ⟨⟨y0, y1⟩, hy2⟩ : ∃ x, ax (px (rowsOf n X) kk) y = x := ⟨_, rfl⟩
                    rw [hz] at g0 g1
                    rw [hy2] at g2 g3
                    dsimp only at g0 g1 g2 g3
                    by_cases heq : z0 = x0 ∧ z1 = x1
                    · obtain ⟨rfl, rfl⟩ := heq
                      have hle : y1 ≤ F := by
                        obtain ⟨j, hj2, hj3⟩ := HDEP.out
                        have hjy : j = y := isAt_inj (HOK.out.acts kk (by rw [HL.out]; omega)) hj2 ⟨by rw [HLEN.out kk (by rw [HL.out]; omega)]; exact hyl, hz⟩
                        subst hjy
                        rw [rows_px (by omega)] at hy2
                        rw [hy2] at hj3
                        exact hj3
                      have heqv : ∀ W : World, (binOp .eql 31 (.agg #[.int .i64 z0, .int .i64 z1]) (.agg #[.int .i64 z0, .int .i64 z1])).run Try.prog W = .ok (.bool true) W := fun W => by rw [act_eqls]; simp
                      have e7 : (y1 > F) = False := by simp; omega
                      clear hz hy2
                      go_wp2
                      go_quiet (fail)
                      go_wp2
                      go_roundw
                      case rel => exact ⟨y + 1, _, by omega, by go_num, (by first | rfl | exact World.drewN_drewN _ _ _)⟩
                      case measure => simp [intOf]; omega
                    · have heqv : ∀ W : World, (binOp .eql 31 (.agg #[.int .i64 z0, .int .i64 z1]) (.agg #[.int .i64 x0, .int .i64 x1])).run Try.prog W = .ok (.bool false) W := fun W => by
                        rw [act_eqls]
                        by_cases q0 : z0 = x0
                        · have q1 : ¬ z1 = x1 := fun q1 => heq ⟨q0, q1⟩
                          simp [q0, q1]
                        · simp [q0]
                      clear hz hy2
                      go_wp2
                      go_quiet (fail)
                      go_wp2
                      go_roundw
                      case rel => exact ⟨y + 1, _, by omega, by go_num, (by first | rfl | exact World.drewN_drewN _ _ _)⟩
                      case measure => simp [intOf]; omega
                  · obtain rfl : y = 2 * m := by omega
                    go_wp2
                    go_roundw
                    case rel => exact ⟨i + 1, _, by omega, by go_num, (by first | rfl | exact World.drewN_drewN _ _ _)⟩
                    case measure => simp [intOf]; omega
        · obtain rfl : 2 * m = i := by omega
          go_wp2
          go_roundw
          case rel => exact ⟨t + 1, _, by omega, by go_num, (by first | rfl | exact World.drewN_drewN _ _ _)⟩
          case measure => simp [intOf]; omega
    · obtain rfl : n = t := by omega
      go_wp2
      go_ret
      exact ⟨rfl, (by repeat (first | fail | (with_reducible exact Below.refl _ _) | (with_reducible exact hbz) | (with_reducible refine Below.al ?_ _) | (with_reducible refine Below.drN ?_ _) | (with_reducible refine Below.drew ?_) | (with_reducible refine Below.st ?_ ?_ _; rotate_left 1; (first | (dsimp only; omega) | omega | (simp; omega) | simp)) | exact Below.refl _ _ | exact hbz))⟩
theorem walk (p : PlanD) (v : Value) (M : Int) (th : List Int) (vt : Value) (bk : List Int) (vb : Value) (w : World) (hp : PlanV w v p) (hM : (Lit.int IntKind.i64 M).wf = true) (ht : IntsV w vt th) (hb : IntsV w vb bk) :
    Calls Try.prog 7 #[v, .int .i64 M, vt, vb] w fun e w' => e = .returned (.bool true) ∧ Below w.heap.size w w' := by
  obtain ⟨a, n, k, b, o, rfl, h⟩ := hp
  obtain ⟨ta, nt, kt, bt, ot, rfl, ht⟩ := ht
  obtain ⟨ba, nb, kb, bb, ob, rfl, hb⟩ := hb
  clear hM
  by_cases hf : planFault M p = 0
  · by_cases hl : nt = n ∧ nb = n
    · obtain ⟨hl1, hl2⟩ := hl
      subst hl1
      subst hl2
      by_cases hc : costOk th nb ∧ costOk bk nb
      · exact walk_ok p th bk M nb a ta ba k b o kt kb bt bb ot ob w h ht hb hf hc
      · have HC := Lib.hid hc
        have HF := Lib.hid hf
        clear hc hf
        go_enter Try.func7, Try.ntmps7
        go_wp2_with fail
        refine (planFact_any w).mono ?_
        rintro e w1 ⟨rfl, hb1⟩
        go_wp2_with fail
        refine (clkTimes_rng p th bk M nb a ta ba k b o kt kb bt bb ot ob anyB _ (h.keep hb1) (ht.keep hb1) (hb.keep hb1) HF.out HC.out).mono ?_
        rintro e w2 ⟨rfl, hb2⟩
        rw [errV_err (by decide)]
        go_wp2
        go_ret
        exact ⟨rfl, (by repeat (first | fail | (with_reducible exact Below.refl _ _) | (with_reducible refine Below.al ?_ _) | (with_reducible refine Below.drN ?_ _) | (with_reducible refine Below.drew ?_) | (with_reducible refine Below.st ?_ ?_ _; rotate_left 1; (first | (dsimp only; omega) | omega | (simp; omega) | simp)) | (with_reducible refine Below.go ?_ hb2) | (with_reducible refine Below.go ?_ hb1) | exact Below.refl _ _))⟩
    · have HC := Lib.hid hl
      have HF := Lib.hid hf
      clear hl hf
      go_enter Try.func7, Try.ntmps7
      go_wp2_with fail
      refine (planFact_any w).mono ?_
      rintro e w1 ⟨rfl, hb1⟩
      go_wp2_with fail
      refine (clkTimes_len p th bk M n nt nb a ta ba k b o kt kb bt bb ot ob anyB _ (h.keep hb1) (ht.keep hb1) (hb.keep hb1) HF.out HC.out).mono ?_
      rintro e w2 ⟨rfl, hb2⟩
      rw [errV_err (by decide)]
      go_wp2
      go_ret
      exact ⟨rfl, (by repeat (first | fail | (with_reducible exact Below.refl _ _) | (with_reducible refine Below.al ?_ _) | (with_reducible refine Below.drN ?_ _) | (with_reducible refine Below.drew ?_) | (with_reducible refine Below.st ?_ ?_ _; rotate_left 1; (first | (dsimp only; omega) | omega | (simp; omega) | simp)) | (with_reducible refine Below.go ?_ hb2) | (with_reducible refine Below.go ?_ hb1) | exact Below.refl _ _))⟩
  · have HF := Lib.hid hf
    clear hf
    go_enter Try.func7, Try.ntmps7
    go_wp2_with fail
    refine (planFact_any w).mono ?_
    rintro e w1 ⟨rfl, hb1⟩
    go_wp2_with fail
    refine (clkTimes_plan p M a ta ba n k b o nt kt nb kb anyB _ (h.keep hb1) HF.out).mono ?_
    rintro e w2 ⟨rfl, hb2⟩
    rw [errV_err HF.out]
    go_wp2
    go_ret
    exact ⟨rfl, (by repeat (first | fail | (with_reducible exact Below.refl _ _) | (with_reducible refine Below.al ?_ _) | (with_reducible refine Below.drN ?_ _) | (with_reducible refine Below.drew ?_) | (with_reducible refine Below.st ?_ ?_ _; rotate_left 1; (first | (dsimp only; omega) | omega | (simp; omega) | simp)) | (with_reducible refine Below.go ?_ hb2) | (with_reducible refine Below.go ?_ hb1) | exact Below.refl _ _))⟩

theorem own : ownKnob Try.prog.godebug = none := by kernel_rfl
theorem laidOut : laidOutB Try.prog = true := by kernel_rfl
set_option maxRecDepth 100000 in
theorem lifted (os : Os) (started : os.Started) (H : Type) (enc : TypeId × Value → H) :
    ReturnsInHanded {} Try.checked os 7 .any (Rows.clockLeastSpec.pre6 enc Try.prog Try.f7 Rows.clockLeastRow.domain false) (Rows.clockLeastSpec.post enc Try.prog Try.f7 false true false false) := by
  refine returnsInHanded_of_change (C := Try.checked) own started (by kernel_rfl) Try.func7
    (ChangeSpec.witness6 (enc := enc) (C := Try.checked) false ⟨#[], #[.slice none 0 0, .int .i64 0, .slice none 0 0, .slice none 0 0], []⟩ 8 (by kernel_rfl) (by kernel_rfl) (by kernel_rfl) (by kernel_rfl)) ?_
  intro W base args ds gs before hval0 hW hcnd hsz
  have hval : ∀ (j : Nat) t v, Try.f7.params[j]? = some t → args[j]? = some v → Value.okWide Try.prog W .any base t v := hval0
  have hW' := hW
  obtain ⟨p, q, hA0, hV, rfl, hfz, hnd⟩ := hW
  have hA : DataW.TrodAll enc Try.prog W 0 (fun _ => true) true Try.f7.params.toList args.toList ds p := hA0
  rw [Try.params7] at hA hval
  obtain ⟨v0, vs0, d0, ds0, p0, q0, hargs, rfl, rfl, h0, r0⟩ := trodAll_cons hA
  obtain ⟨v1, vs1, d1, ds1, p1, q1, rfl, rfl, rfl, h1, r1⟩ := trodAll_cons r0
  obtain ⟨v2, vs2, d2, ds2, p2, q2, rfl, rfl, rfl, h2, r2⟩ := trodAll_cons r1
  obtain ⟨v3, vs3, d3, ds3, p3, q3, rfl, rfl, rfl, h3, r3⟩ := trodAll_cons r2
  obtain ⟨rfl, rfl, rfl⟩ := trodAll_nil r3
  obtain rfl : args = #[v0, v1, v2, v3] := by cases args; simp_all
  obtain ⟨rfl, rfl⟩ := trodVars_none hV
  have k0 := h0
  have lt0 : ∀ x ∈ p0, x.block < W.heap.size := by obtain ⟨m, hm⟩ := k0; exact DataW.trod_lt m _ _ _ hm
  have k1 := h1
  have lt1 : ∀ x ∈ p1, x.block < W.heap.size := by obtain ⟨m, hm⟩ := k1; exact DataW.trod_lt m _ _ _ hm
  have k2 := h2
  have lt2 : ∀ x ∈ p2, x.block < W.heap.size := by obtain ⟨m, hm⟩ := k2; exact DataW.trod_lt m _ _ _ hm
  have k3 := h3
  have lt3 : ∀ x ∈ p3, x.block < W.heap.size := by obtain ⟨m, hm⟩ := k3; exact DataW.trod_lt m _ _ _ hm
  obtain ⟨a0, w0⟩ := open_llAct (hval 0 23 v0 rfl rfl) h0
  obtain ⟨a1, rfl, rfl, rfl, w1⟩ := open_int Try.underlying3 (hval 1 3 v1 rfl rfl) h1
  obtain ⟨a2, w2⟩ := open_lint (hval 2 37 v2 rfl rfl) h2
  obtain ⟨a3, w3⟩ := open_lint (hval 3 37 v3 rfl rfl) h3
  clear hA0 hval0
  refine (walk a0 v0 a1 a2 v2 a3 v3 W w0 w1 w2 w3).mono fun e W' ⟨he, bel⟩ => ?_
  subst he
  exact ⟨_, rfl, _, _, _, [], _, [], hW', trodAll_mk1 (shut_bool Try.underlying4 _), (trodAll_cons_mk (Below.trod laidOut (by kernel_rfl) (of_decide_eq_true (by kernel_rfl)) k0 bel lt0) (trodAll_cons_mk (Below.trod laidOut (by kernel_rfl) (of_decide_eq_true (by kernel_rfl)) k1 bel lt1) (trodAll_cons_mk (Below.trod laidOut (by kernel_rfl) (of_decide_eq_true (by kernel_rfl)) k2 bel lt2) (trodAll_cons_mk (Below.trod laidOut (by kernel_rfl) (of_decide_eq_true (by kernel_rfl)) k3 bel lt3) trodAll_mk0)))), rfl, bel.frame _, fun h => by cases h⟩

theorem proved : Rows.ClockLeastSaid :=
  OpenClaim.holds_of_wide 7 Try.f7 rfl rfl rfl rfl rfl rfl rfl ⟨rfl, rfl, rfl, rfl, rfl⟩ rfl rfl rfl rfl rfl (by kernel_rfl) Try.func7 (by kernel_rfl)
    (of_decide_eq_true (by kernel_rfl)) (by unfold Func.isWrapper; first | (rw [if_pos (by decide +kernel)]; kernel_rfl) | (rw [if_neg (by decide +kernel)]; exact ⟨rfl, rfl⟩))
    (fun os started H enc _ => lifted os started H enc)
#print axioms proved

end Go.Proofs.Ytjaepdkeldgikaa.lawClockLeast
