/- Some small texts, joined: Train1, Train2. -/
import Derived.Test.YtgknjikjjklaiaaJPlain
import Derived.Test.YtgknjikjjklaiaaFormsG
import Derived.Test.YtgknjikjjklaiaaBatch4
import Derived.Test.YtgknjikjjklaiaaNet1
import Derived.Test.YtgknjikjjklaiaaStep5
section
set_option linter.unusedVariables false
set_option linter.unusedSimpArgs false
set_option linter.unusedSectionVars false
set_option maxRecDepth 100000
namespace Gal
/-- where a part is wrong, the state is -/
theorem stTo_stop {ls : List Lay} {vs : List Grd} {k n : Nat} (hk : k < n) (hz : stTo ls vs k = 0) (hp : stPart (lx ls k) (gx vs k) ≠ 0) : stTo ls vs n = stPart (lx ls k) (gx vs k) := by
  have h1 := stTo_next hz
  rw [← h1]
  exact stTo_stays hk (by rw [h1]; exact hp)
theorem Sta.fault_to {s : Sta} (h1 : ¬ 12 < s.N.length) (h2 : s.V.length = s.N.length) (h3 : ¬ (s.steps < 0 ∨ 1000000000 < s.steps)) : s.fault = stTo s.N s.V s.N.length := by
  unfold Sta.fault
  rw [if_neg h1, if_neg (by omega), if_neg h3]
end Gal
namespace Go.Proofs.Ytgknjikjjklaiaa
open Go.RowKit Gal
set_option maxHeartbeats 4000000
theorem trainCheck_any (s : Sta) (F G : Nat → Prop) (a0 a1 : Option Addr) (n n1 k0 k1 b0 b1 o0 o1 : Nat) (w : World) (h0 : RowAt Form.lay w F a0 n k0 b0 o0 s.N) (h1 : RowAt Form.grd w G a1 n1 k1 b1 o1 s.V) :
    Calls Try.prog 42 #[.agg #[.slice a0 n k0, .slice a1 n1 k1, .int .i64 s.steps]] w fun e w' => e = .returned (errV s.fault) ∧ Below w.heap.size w w' := by
  have HL0 := Lib.hid h0.len
  have HL1 := Lib.hid h1.len
  have hm := h0.max
  have hm1 := h1.max
  unfold maxLen at hm hm1
  by_cases g1 : 12 < n
  · have HF : Hid (s.fault = 3) := Lib.hid (by unfold Sta.fault; rw [if_pos (by rw [HL0.out]; exact g1)])
    have e1 : ((n : Int) > 12) = True := eq_true (by omega)
    clear g1
    rw [show s.fault = 3 from HF.out, errV_err (by decide)]
    go_enter Try.func42, Try.ntmps42
    go_wp2
    go_ret
    exact ⟨by rfl, (by repeat (first | fail | (with_reducible exact Below.refl _ _) | (with_reducible refine Below.al ?_ _) | (with_reducible refine Below.drN ?_ _) | (with_reducible refine Below.drew ?_) | (with_reducible refine Below.st ?_ ?_ _; rotate_left 1; (first | (dsimp only; omega) | omega | (simp; omega) | simp)) | exact Below.refl _ _))⟩
  · have e1 : ((n : Int) > 12) = False := eq_false (by omega)
    by_cases g2 : n1 = n
    · have e2 : ((n1 : Int) != (n : Int)) = false := by rw [bne_eq_false_iff_eq]; omega
      by_cases g3 : s.steps < 0
      · have HF : Hid (s.fault = 1) := Lib.hid (by unfold Sta.fault; rw [if_neg (by rw [HL0.out]; exact g1), if_neg (by rw [HL0.out, HL1.out]; omega), if_pos (Or.inl g3)])
        have e3 : (s.steps < 0) = True := eq_true g3
        clear g1 g2 g3
        rw [show s.fault = 1 from HF.out, errV_err (by decide)]
        go_enter Try.func42, Try.ntmps42
        go_wp2
        go_ret
        exact ⟨by rfl, (by repeat (first | fail | (with_reducible exact Below.refl _ _) | (with_reducible refine Below.al ?_ _) | (with_reducible refine Below.drN ?_ _) | (with_reducible refine Below.drew ?_) | (with_reducible refine Below.st ?_ ?_ _; rotate_left 1; (first | (dsimp only; omega) | omega | (simp; omega) | simp)) | exact Below.refl _ _))⟩
      · have e3 : (s.steps < 0) = False := eq_false g3
        by_cases g4 : 1000000000 < s.steps
        · have HF : Hid (s.fault = 1) := Lib.hid (by unfold Sta.fault; rw [if_neg (by rw [HL0.out]; exact g1), if_neg (by rw [HL0.out, HL1.out]; omega), if_pos (Or.inr g4)])
          have e4 : (s.steps > 1000000000) = True := eq_true (by omega)
          clear g1 g2 g3 g4
          rw [show s.fault = 1 from HF.out, errV_err (by decide)]
          go_enter Try.func42, Try.ntmps42
          go_wp2
          go_ret
          exact ⟨by rfl, (by repeat (first | fail | (with_reducible exact Below.refl _ _) | (with_reducible refine Below.al ?_ _) | (with_reducible refine Below.drN ?_ _) | (with_reducible refine Below.drew ?_) | (with_reducible refine Below.st ?_ ?_ _; rotate_left 1; (first | (dsimp only; omega) | omega | (simp; omega) | simp)) | exact Below.refl _ _))⟩
        · have e4 : (s.steps > 1000000000) = False := eq_false (by omega)
          have HTO : Hid (s.fault = stTo s.N s.V n) := Lib.hid (by rw [Sta.fault_to (by rw [HL0.out]; exact g1) (by rw [HL0.out, HL1.out]; exact g2) (by omega), HL0.out])
          subst g2
          clear g3 g4
          go_enter Try.func42, Try.ntmps42
          go_wp2
          go_loopw [37] (fun i wr => ∃ t : Nat, t ≤ n1 ∧ i = .int .i64 t ∧ Hid (stTo s.N s.V t = 0) ∧ Box wr w.heap.size [.slice a0 n1 k0, .slice a1 n1 k1, .int .i64 s.steps] 48 ∧ Below w.heap.size w wr) (fun i _ => n1 - (intOf i).toNat)
          case atStart => exact ⟨0, Nat.zero_le _, rfl, Lib.hid rfl, Box.new' _ _ [.slice a0 n1 k0, .slice a1 n1 k1, .int .i64 s.steps] _ rfl, (by repeat (first | fail | (with_reducible exact Below.refl _ _) | (with_reducible refine Below.al ?_ _) | (with_reducible refine Below.drN ?_ _) | (with_reducible refine Below.drew ?_) | (with_reducible refine Below.st ?_ ?_ _; rotate_left 1; (first | (dsimp only; omega) | omega | (simp; omega) | simp)) | exact Below.refl _ _))⟩
          case round =>
            obtain ⟨t, ht, rfl, HT, hS, hbr⟩ := hrel
            by_cases hlt : t < n1
            · obtain rfl := h0.ptr (by omega)
              obtain rfl := h1.ptr (by omega)
              obtain ⟨a2, n2, k2, b2, o2, a3, n3, k3, b3, o3, c0, c1, c2, c3, c4, c5, c6, x1, x2⟩ := lay_cells (h0.keep hbr) hlt
              by_cases f1 : (lx s.N t).fault = 0
              · have HFL := Lib.hid f1
                have HE1 : Hid (errV (lx s.N t).fault = .nilIface) := Lib.hid (errV_nil f1)
                clear f1
                go_wp2_with fail
                refine (layCheck_any (lx s.N t) _ _ ⟨_, _, _, _, _, _, _, _, _, _, rfl, x1.alloc _, x2.alloc _⟩).mono ?_
                rw [HE1.out]
                rintro e w1 ⟨rfl, hb1⟩
                have B4 := (Box.new wr [.int .i64 (lx s.N t).kind, .int .i64 (lx s.N t).W.rows, .int .i64 (lx s.N t).W.cols, .slice a2 n2 k2, .int .i64 (lx s.N t).B.rows, .int .i64 (lx s.N t).B.cols, .slice a3 n3 k3] 65).keep hb1
                have B4c := B4.cell
                have B4f := B4.thawed
                have B4z := B4.lt
                have B4k := lt_add B4z
                have hkw1 : Below wr.heap.size wr w1 := (by repeat (first | fail | (with_reducible exact Below.refl _ _) | (with_reducible refine Below.al ?_ _) | (with_reducible refine Below.drN ?_ _) | (with_reducible refine Below.drew ?_) | (with_reducible refine Below.st ?_ ?_ _; rotate_left 1; (first | (dsimp only; omega) | omega | (simp; omega) | simp)) | (with_reducible refine Below.go ?_ hb1) | exact Below.refl _ _))
                replace hS := hS.keep hkw1
                replace hSc := hS.cell
                replace hSf := hS.thawed
                replace hSz := hS.lt
                replace hSk := lt_add hSz
                have hsw1 := hkw1.size
                clear x1 x2 c0 c1 c2 c3 c4 c5 c6
                have hbw1 : Below w.heap.size w w1 := hbr.trans (hkw1.mono hbr.size)
                obtain ⟨a4, n4, k4, b4, o4, a5, n5, k5, b5, o5, d0, d1, d2, d3, d4, d5, y1, y2⟩ := grd_cells (h1.keep hbw1) (gx_get (i := t) (by rw [HL1.out]; exact hlt))
                by_cases f2 : (gx s.V t).W.fault = 0
                · have HFW := Lib.hid f2
                  have HE2 : Hid (errV (matFault (gx s.V t).W.rows (gx s.V t).W.cols (gx s.V t).W.cells) = .nilIface) := Lib.hid (errV_nil f2)
                  clear f2
                  go_wp2_with fail
                  refine (matCheck_any _ _ _ _ _ _ _ (gx s.V t).W.cells _ (y1.alloc _)).mono ?_
                  rw [HE2.out]
                  rintro e w2 ⟨rfl, hb2⟩
                  have B6 := (Box.new w1 [.int .i64 (gx s.V t).W.rows, .int .i64 (gx s.V t).W.cols, .slice a4 n4 k4, .int .i64 (gx s.V t).B.rows, .int .i64 (gx s.V t).B.cols, .slice a5 n5 k5] 67).keep hb2
                  have B6c := B6.cell
                  have B6f := B6.thawed
                  have B6z := B6.lt
                  have B6k := lt_add B6z
                  have hkw2 : Below w1.heap.size w1 w2 := (by repeat (first | fail | (with_reducible exact Below.refl _ _) | (with_reducible refine Below.al ?_ _) | (with_reducible refine Below.drN ?_ _) | (with_reducible refine Below.drew ?_) | (with_reducible refine Below.st ?_ ?_ _; rotate_left 1; (first | (dsimp only; omega) | omega | (simp; omega) | simp)) | (with_reducible refine Below.go ?_ hb2) | exact Below.refl _ _))
                  replace hS := hS.keep hkw2
                  replace hSc := hS.cell
                  replace hSf := hS.thawed
                  replace hSz := hS.lt
                  replace hSk := lt_add hSz
                  replace B4 := B4.keep hkw2
                  replace B4c := B4.cell
                  replace B4f := B4.thawed
                  replace B4z := B4.lt
                  replace B4k := lt_add B4z
                  replace y2 := y2.keep hkw2
                  have hsw2 := hkw2.size
                  clear y1 d0 d1 d2 d3 d4 d5
                  by_cases f3 : (gx s.V t).B.fault = 0
                  · have HFB := Lib.hid f3
                    have HE3 : Hid (errV (matFault (gx s.V t).B.rows (gx s.V t).B.cols (gx s.V t).B.cells) = .nilIface) := Lib.hid (errV_nil f3)
                    clear f3
                    go_wp2_with fail
                    refine (matCheck_any _ _ _ _ _ _ _ (gx s.V t).B.cells _ y2).mono ?_
                    rw [HE3.out]
                    rintro e w3 ⟨rfl, hb3⟩
                    have hkw3 : Below w2.heap.size w2 w3 := (by repeat (first | fail | (with_reducible exact Below.refl _ _) | (with_reducible refine Below.al ?_ _) | (with_reducible refine Below.drN ?_ _) | (with_reducible refine Below.drew ?_) | (with_reducible refine Below.st ?_ ?_ _; rotate_left 1; (first | (dsimp only; omega) | omega | (simp; omega) | simp)) | (with_reducible refine Below.go ?_ hb3) | exact Below.refl _ _))
                    replace hS := hS.keep hkw3
                    replace hSc := hS.cell
                    replace hSf := hS.thawed
                    replace hSz := hS.lt
                    replace hSk := lt_add hSz
                    replace B4 := B4.keep hkw3
                    replace B4c := B4.cell
                    replace B4f := B4.thawed
                    replace B4z := B4.lt
                    replace B4k := lt_add B4z
                    replace B6 := B6.keep hkw3
                    replace B6c := B6.cell
                    replace B6f := B6.thawed
                    replace B6z := B6.lt
                    replace B6k := lt_add B6z
                    have hsw3 := hkw3.size
                    have hbe : Below w.heap.size w w3 := (by repeat (first | fail | (with_reducible exact Below.refl _ _) | (with_reducible exact hbw1) | (with_reducible refine Below.al ?_ _) | (with_reducible refine Below.drN ?_ _) | (with_reducible refine Below.drew ?_) | (with_reducible refine Below.st ?_ ?_ _; rotate_left 1; (first | (dsimp only; omega) | omega | (simp; omega) | simp)) | (with_reducible refine Below.go ?_ hb3) | (with_reducible refine Below.go ?_ hb2) | exact Below.refl _ _ | exact hbw1))
                    clear y2 hb3 hb2 hbw1 hkw3 hkw2 hkw1
                    by_cases q1 : (gx s.V t).W.rows = (lx s.N t).W.rows
                    · have r1 : ((gx s.V t).W.rows != (lx s.N t).W.rows) = false := by rw [bne_eq_false_iff_eq]; exact q1
                      by_cases q2 : (gx s.V t).W.cols = (lx s.N t).W.cols
                      · have r2 : ((gx s.V t).W.cols != (lx s.N t).W.cols) = false := by rw [bne_eq_false_iff_eq]; exact q2
                        by_cases q3 : (gx s.V t).B.rows = (lx s.N t).B.rows
                        · have r3 : ((gx s.V t).B.rows != (lx s.N t).B.rows) = false := by rw [bne_eq_false_iff_eq]; exact q3
                          by_cases q4 : (gx s.V t).B.cols = (lx s.N t).B.cols
                          · have r4 : ((gx s.V t).B.cols != (lx s.N t).B.cols) = false := by rw [bne_eq_false_iff_eq]; exact q4
                            have HNX : Hid (stTo s.N s.V (t + 1) = 0) := Lib.hid (by
                              rw [stTo_next HT.out]
                              unfold stPart
                              rw [if_neg (by simp [HFL.out]), if_neg (by simp [HFW.out]), if_neg (by simp [HFB.out]), if_pos ⟨⟨q1, q2⟩, q3, q4⟩])
                            clear q1 q2 q3 q4
                            go_wp2
                            go_roundw
                            case rel => exact ⟨t + 1, by omega, by go_num, HNX, hS, hbe⟩
                            case measure => simp [intOf]; omega
                          · have r4 : ((gx s.V t).B.cols != (lx s.N t).B.cols) = true := by rw [bne_iff_ne]; exact q4
                            have HNZ : Hid ((2 : Int) ≠ 0) := Lib.hid (by decide)
                            have HR : Hid (errV s.fault = .iface 56 (.int .i64 2)) := Lib.hid (by
                              have h1 : stPart (lx s.N t) (gx s.V t) = 2 := by
                                unfold stPart
                                rw [if_neg (by simp [HFL.out]), if_neg (by simp [HFW.out]), if_neg (by simp [HFB.out]), if_neg (fun hh => q4 hh.2.2)]
                              rw [HTO.out, stTo_stop hlt HT.out (by rw [h1]; exact HNZ.out), h1]
                              exact errV_err HNZ.out)
                            go_wp2
                            go_ret
                            exact ⟨by rw [HR.out]; rfl, (by repeat (first | fail | (with_reducible exact Below.refl _ _) | (with_reducible exact hbe) | (with_reducible refine Below.al ?_ _) | (with_reducible refine Below.drN ?_ _) | (with_reducible refine Below.drew ?_) | (with_reducible refine Below.st ?_ ?_ _; rotate_left 1; (first | (dsimp only; omega) | omega | (simp; omega) | simp)) | exact Below.refl _ _ | exact hbe))⟩
                        · have r3 : ((gx s.V t).B.rows != (lx s.N t).B.rows) = true := by rw [bne_iff_ne]; exact q3
                          have HNZ : Hid ((2 : Int) ≠ 0) := Lib.hid (by decide)
                          have HR : Hid (errV s.fault = .iface 56 (.int .i64 2)) := Lib.hid (by
                            have h1 : stPart (lx s.N t) (gx s.V t) = 2 := by
                              unfold stPart
                              rw [if_neg (by simp [HFL.out]), if_neg (by simp [HFW.out]), if_neg (by simp [HFB.out]), if_neg (fun hh => q3 hh.2.1)]
                            rw [HTO.out, stTo_stop hlt HT.out (by rw [h1]; exact HNZ.out), h1]
                            exact errV_err HNZ.out)
                          go_wp2
                          go_ret
                          exact ⟨by rw [HR.out]; rfl, (by repeat (first | fail | (with_reducible exact Below.refl _ _) | (with_reducible exact hbe) | (with_reducible refine Below.al ?_ _) | (with_reducible refine Below.drN ?_ _) | (with_reducible refine Below.drew ?_) | (with_reducible refine Below.st ?_ ?_ _; rotate_left 1; (first | (dsimp only; omega) | omega | (simp; omega) | simp)) | exact Below.refl _ _ | exact hbe))⟩
                      · have r2 : ((gx s.V t).W.cols != (lx s.N t).W.cols) = true := by rw [bne_iff_ne]; exact q2
                        have HNZ : Hid ((2 : Int) ≠ 0) := Lib.hid (by decide)
                        have HR : Hid (errV s.fault = .iface 56 (.int .i64 2)) := Lib.hid (by
                          have h1 : stPart (lx s.N t) (gx s.V t) = 2 := by
                            unfold stPart
                            rw [if_neg (by simp [HFL.out]), if_neg (by simp [HFW.out]), if_neg (by simp [HFB.out]), if_neg (fun hh => q2 hh.1.2)]
                          rw [HTO.out, stTo_stop hlt HT.out (by rw [h1]; exact HNZ.out), h1]
                          exact errV_err HNZ.out)
                        go_wp2
                        go_ret
                        exact ⟨by rw [HR.out]; rfl, (by repeat (first | fail | (with_reducible exact Below.refl _ _) | (with_reducible exact hbe) | (with_reducible refine Below.al ?_ _) | (with_reducible refine Below.drN ?_ _) | (with_reducible refine Below.drew ?_) | (with_reducible refine Below.st ?_ ?_ _; rotate_left 1; (first | (dsimp only; omega) | omega | (simp; omega) | simp)) | exact Below.refl _ _ | exact hbe))⟩
                    · have r1 : ((gx s.V t).W.rows != (lx s.N t).W.rows) = true := by rw [bne_iff_ne]; exact q1
                      have HNZ : Hid ((2 : Int) ≠ 0) := Lib.hid (by decide)
                      have HR : Hid (errV s.fault = .iface 56 (.int .i64 2)) := Lib.hid (by
                        have h1 : stPart (lx s.N t) (gx s.V t) = 2 := by
                          unfold stPart
                          rw [if_neg (by simp [HFL.out]), if_neg (by simp [HFW.out]), if_neg (by simp [HFB.out]), if_neg (fun hh => q1 hh.1.1)]
                        rw [HTO.out, stTo_stop hlt HT.out (by rw [h1]; exact HNZ.out), h1]
                        exact errV_err HNZ.out)
                      go_wp2
                      go_ret
                      exact ⟨by rw [HR.out]; rfl, (by repeat (first | fail | (with_reducible exact Below.refl _ _) | (with_reducible exact hbe) | (with_reducible refine Below.al ?_ _) | (with_reducible refine Below.drN ?_ _) | (with_reducible refine Below.drew ?_) | (with_reducible refine Below.st ?_ ?_ _; rotate_left 1; (first | (dsimp only; omega) | omega | (simp; omega) | simp)) | exact Below.refl _ _ | exact hbe))⟩
                  · have HNZ := Lib.hid f3
                    have HE3 : Hid (errV (matFault (gx s.V t).B.rows (gx s.V t).B.cols (gx s.V t).B.cells) = .iface 56 (.int .i64 (gx s.V t).B.fault)) := Lib.hid (errV_err f3)
                    clear f3
                    go_wp2_with fail
                    refine (matCheck_any _ _ _ _ _ _ _ (gx s.V t).B.cells _ y2).mono ?_
                    rw [HE3.out]
                    rintro e w3 ⟨rfl, hb3⟩
                    have hbe : Below w.heap.size w w3 := (by repeat (first | fail | (with_reducible exact Below.refl _ _) | (with_reducible exact hbw1) | (with_reducible refine Below.al ?_ _) | (with_reducible refine Below.drN ?_ _) | (with_reducible refine Below.drew ?_) | (with_reducible refine Below.st ?_ ?_ _; rotate_left 1; (first | (dsimp only; omega) | omega | (simp; omega) | simp)) | (with_reducible refine Below.go ?_ hb3) | (with_reducible refine Below.go ?_ hb2) | exact Below.refl _ _ | exact hbw1))
                    -- (gx s.V t).B.fault: the fault, (by unfold stPart; rw [if_neg (by simp [HFL.out]), if_neg (by simp [HFW.out]), if_pos HNZ.out]): why, hbe: Below
                    have HR : Hid (errV s.fault = .iface 56 (.int .i64 ((gx s.V t).B.fault))) := Lib.hid (by
                      have h1 : stPart (lx s.N t) (gx s.V t) = (gx s.V t).B.fault := (by unfold stPart; rw [if_neg (by simp [HFL.out]), if_neg (by simp [HFW.out]), if_pos HNZ.out])
                      rw [HTO.out, stTo_stop hlt HT.out (by rw [h1]; exact HNZ.out), h1]
                      exact errV_err HNZ.out)
                    go_wp2
                    go_ret
                    exact ⟨by rw [HR.out]; rfl, (by repeat (first | fail | (with_reducible exact Below.refl _ _) | (with_reducible exact hbe) | (with_reducible refine Below.al ?_ _) | (with_reducible refine Below.drN ?_ _) | (with_reducible refine Below.drew ?_) | (with_reducible refine Below.st ?_ ?_ _; rotate_left 1; (first | (dsimp only; omega) | omega | (simp; omega) | simp)) | exact Below.refl _ _ | exact hbe))⟩
                · have HNZ := Lib.hid f2
                  have HE2 : Hid (errV (matFault (gx s.V t).W.rows (gx s.V t).W.cols (gx s.V t).W.cells) = .iface 56 (.int .i64 (gx s.V t).W.fault)) := Lib.hid (errV_err f2)
                  clear f2
                  go_wp2_with fail
                  refine (matCheck_any _ _ _ _ _ _ _ (gx s.V t).W.cells _ (y1.alloc _)).mono ?_
                  rw [HE2.out]
                  rintro e w2 ⟨rfl, hb2⟩
                  have hbe : Below w.heap.size w w2 := (by repeat (first | fail | (with_reducible exact Below.refl _ _) | (with_reducible exact hbw1) | (with_reducible refine Below.al ?_ _) | (with_reducible refine Below.drN ?_ _) | (with_reducible refine Below.drew ?_) | (with_reducible refine Below.st ?_ ?_ _; rotate_left 1; (first | (dsimp only; omega) | omega | (simp; omega) | simp)) | (with_reducible refine Below.go ?_ hb2) | exact Below.refl _ _ | exact hbw1))
                  -- (gx s.V t).W.fault: the fault, (by unfold stPart; rw [if_neg (by simp [HFL.out]), if_pos HNZ.out]): why, hbe: Below
                  have HR : Hid (errV s.fault = .iface 56 (.int .i64 ((gx s.V t).W.fault))) := Lib.hid (by
                    have h1 : stPart (lx s.N t) (gx s.V t) = (gx s.V t).W.fault := (by unfold stPart; rw [if_neg (by simp [HFL.out]), if_pos HNZ.out])
                    rw [HTO.out, stTo_stop hlt HT.out (by rw [h1]; exact HNZ.out), h1]
                    exact errV_err HNZ.out)
                  go_wp2
                  go_ret
                  exact ⟨by rw [HR.out]; rfl, (by repeat (first | fail | (with_reducible exact Below.refl _ _) | (with_reducible exact hbe) | (with_reducible refine Below.al ?_ _) | (with_reducible refine Below.drN ?_ _) | (with_reducible refine Below.drew ?_) | (with_reducible refine Below.st ?_ ?_ _; rotate_left 1; (first | (dsimp only; omega) | omega | (simp; omega) | simp)) | exact Below.refl _ _ | exact hbe))⟩
              · have HNZ := Lib.hid f1
                have HE1 : Hid (errV (lx s.N t).fault = .iface 56 (.int .i64 (lx s.N t).fault)) := Lib.hid (errV_err f1)
                clear f1
                go_wp2_with fail
                refine (layCheck_any (lx s.N t) _ _ ⟨_, _, _, _, _, _, _, _, _, _, rfl, x1.alloc _, x2.alloc _⟩).mono ?_
                rw [HE1.out]
                rintro e w1 ⟨rfl, hb1⟩
                have hbe : Below w.heap.size w w1 := (by repeat (first | fail | (with_reducible exact Below.refl _ _) | (with_reducible exact hbr) | (with_reducible refine Below.al ?_ _) | (with_reducible refine Below.drN ?_ _) | (with_reducible refine Below.drew ?_) | (with_reducible refine Below.st ?_ ?_ _; rotate_left 1; (first | (dsimp only; omega) | omega | (simp; omega) | simp)) | (with_reducible refine Below.go ?_ hb1) | exact Below.refl _ _ | exact hbr))
                -- (lx s.N t).fault: the fault, (if_pos HNZ.out): why, hbe: Below
                have HR : Hid (errV s.fault = .iface 56 (.int .i64 ((lx s.N t).fault))) := Lib.hid (by
                  have h1 : stPart (lx s.N t) (gx s.V t) = (lx s.N t).fault := (if_pos HNZ.out)
                  rw [HTO.out, stTo_stop hlt HT.out (by rw [h1]; exact HNZ.out), h1]
                  exact errV_err HNZ.out)
                go_wp2
                go_ret
                exact ⟨by rw [HR.out]; rfl, (by repeat (first | fail | (with_reducible exact Below.refl _ _) | (with_reducible exact hbe) | (with_reducible refine Below.al ?_ _) | (with_reducible refine Below.drN ?_ _) | (with_reducible refine Below.drew ?_) | (with_reducible refine Below.st ?_ ?_ _; rotate_left 1; (first | (dsimp only; omega) | omega | (simp; omega) | simp)) | exact Below.refl _ _ | exact hbe))⟩
            · obtain rfl : t = n1 := by omega
              have HR : Hid (errV s.fault = .nilIface) := Lib.hid (by rw [HTO.out, HT.out]; exact errV_nil rfl)
              go_wp2
              go_ret
              exact ⟨by rw [HR.out]; rfl, (by repeat (first | fail | (with_reducible exact Below.refl _ _) | (with_reducible exact hbr) | (with_reducible refine Below.al ?_ _) | (with_reducible refine Below.drN ?_ _) | (with_reducible refine Below.drew ?_) | (with_reducible refine Below.st ?_ ?_ _; rotate_left 1; (first | (dsimp only; omega) | omega | (simp; omega) | simp)) | exact Below.refl _ _ | exact hbr))⟩
    · have HF : Hid (s.fault = 2) := Lib.hid (by unfold Sta.fault; rw [if_neg (by rw [HL0.out]; exact g1), if_pos (by rw [HL0.out, HL1.out]; exact g2)])
      have e2 : ((n1 : Int) != (n : Int)) = true := by rw [bne_iff_ne]; omega
      clear g1 g2
      rw [show s.fault = 2 from HF.out, errV_err (by decide)]
      go_enter Try.func42, Try.ntmps42
      go_wp2
      go_ret
      exact ⟨by rfl, (by repeat (first | fail | (with_reducible exact Below.refl _ _) | (with_reducible refine Below.al ?_ _) | (with_reducible refine Below.drN ?_ _) | (with_reducible refine Below.drew ?_) | (with_reducible refine Below.st ?_ ?_ _; rotate_left 1; (first | (dsimp only; omega) | omega | (simp; omega) | simp)) | exact Below.refl _ _))⟩
end Go.Proofs.Ytgknjikjjklaiaa
end
section
set_option linter.unusedVariables false
set_option linter.unusedSimpArgs false
set_option linter.unusedSectionVars false
set_option maxRecDepth 100000
namespace Gal
open Go Go.RowKit
theorem oneFault_1 {s : Sta} {b : Bat} {p ln kp : Int} (h1 : s.fault ≠ 0) : oneFault s b p ln kp = s.fault := by unfold oneFault; rw [if_pos h1]
theorem oneFault_2 {s : Sta} {b : Bat} {p ln kp : Int} (h1 : s.fault = 0) (h2 : splitFault b p ≠ 0) : oneFault s b p ln kp = splitFault b p := by unfold oneFault; rw [if_neg (by simp [h1]), if_pos h2]
theorem oneFault_3 {s : Sta} {b : Bat} {p ln kp : Int} (h1 : s.fault = 0) (h2 : splitFault b p = 0) (h3 : netWideFault s.N b.I.cols ≠ 0) : oneFault s b p ln kp = netWideFault s.N b.I.cols := by unfold oneFault; rw [if_neg (by simp [h1]), if_neg (by simp [h2]), if_pos h3]
theorem oneFault_4 {s : Sta} {b : Bat} {p ln kp : Int} (h1 : s.fault = 0) (h2 : splitFault b p = 0) (h3 : netWideFault s.N b.I.cols = 0) : oneFault s b p ln kp = if netW s.N b.I.cols s.N.length ≠ b.W.cols then 2 else if 12 < nx (sizesIn b p) 0 then 1 else if ln < 0 ∨ 256 < ln ∨ kp < 0 ∨ 256 < kp then 1 else 0 := by unfold oneFault; rw [if_neg (by simp [h1]), if_neg (by simp [h2]), if_neg (by simp [h3])]
end Gal
namespace Go.Proofs.Ytgknjikjjklaiaa
open Go.RowKit Gal
set_option maxHeartbeats 4000000
/-- what train.Parts answers -/
def PartsEnd (w : World) (s : Sta) (d : Bat) (p ln kp : Int) (e : Ending) (w' : World) : Prop :=
  ∃ u, e = .returned (.tuple #[u, errV (oneFault s d p ln kp)]) ∧ Below w.heap.size w w' ∧
    (oneFault s d p ln kp = 0 → ∃ a k b, u = .slice a p.toNat k ∧ RowAt Form.bat w' (newB w.heap.size) a p.toNat k b 0 (partsTo d (sizesIn d p) p.toNat)) ∧ (oneFault s d p ln kp ≠ 0 → u = .slice none 0 0)
theorem trainParts_any (s : Sta) (d : Bat) (p ln kp : Int) (F G : Nat → Prop) (a0 a1 : Option Addr) (n n1 k0 k1 b0 b1 o0 o1 : Nat) (vb : Value) (w : World) (h0 : RowAt Form.lay w F a0 n k0 b0 o0 s.N) (h1 : RowAt Form.grd w G a1 n1 k1 b1 o1 s.V) (hd : BatAt w vb d) :
    Calls Try.prog 28 #[.agg #[.slice a0 n k0, .slice a1 n1 k1, .int .i64 s.steps], vb, .int .i64 p, .agg #[.int .i64 ln, .int .i64 kp]] w (PartsEnd w s d p ln kp) := by
  obtain ⟨a2, n2, k2, b2, o2, a3, n3, k3, b3, o3, rfl, x0, x1⟩ := hd
  have HL0 := Lib.hid h0.len
  by_cases hs : s.fault = 0
  · have HS := Lib.hid hs
    have HES : Hid (errV s.fault = .nilIface) := Lib.hid (errV_nil hs)
    clear hs
    go_enter Try.func28, Try.ntmps28
    go_wp2_with fail
    refine (trainCheck_any s F G _ _ _ _ _ _ _ _ _ _ _ (h0.alloc _ |>.alloc _ |>.alloc _) (h1.alloc _ |>.alloc _ |>.alloc _)).mono ?_
    rw [HES.out]
    rintro e w1 ⟨rfl, hb1⟩
    have B4 := ((show Box _ w.heap.size [.slice a0 n k0, .slice a1 n1 k1, .int .i64 s.steps] 48 from (by repeat (first | fail | (with_reducible refine (Box.new' _ w.heap.size _ _ ?_); (simp; done)) | (with_reducible refine Box.alloc ?_ _) | (with_reducible refine Box.drewN ?_ _) | (with_reducible refine Box.drew ?_) | (with_reducible refine Box.far ?_ ?_ _; rotate_left 1; (first | (dsimp only; omega) | omega | (simp; omega) | simp)))))).keep hb1
    have B4c := B4.cell
    have B4f := B4.thawed
    have B4z := B4.lt
    have B4k := lt_add B4z
    have B5 := ((show Box _ (w.heap.size + 1) [.int .i64 d.I.rows, .int .i64 d.I.cols, .slice a2 n2 k2, .int .i64 d.W.rows, .int .i64 d.W.cols, .slice a3 n3 k3] 53 from (by repeat (first | fail | (with_reducible refine (Box.new' _ (w.heap.size + 1) _ _ ?_); (simp; done)) | (with_reducible refine Box.alloc ?_ _) | (with_reducible refine Box.drewN ?_ _) | (with_reducible refine Box.drew ?_) | (with_reducible refine Box.far ?_ ?_ _; rotate_left 1; (first | (dsimp only; omega) | omega | (simp; omega) | simp)))))).keep hb1
    have B5c := B5.cell
    have B5f := B5.thawed
    have B5z := B5.lt
    have B5k := lt_add B5z
    have B7 := ((show Box _ (w.heap.size + 1 + 1) [.int .i64 ln, .int .i64 kp] 46 from (by repeat (first | fail | (with_reducible refine (Box.new' _ (w.heap.size + 1 + 1) _ _ ?_); (simp; done)) | (with_reducible refine Box.alloc ?_ _) | (with_reducible refine Box.drewN ?_ _) | (with_reducible refine Box.drew ?_) | (with_reducible refine Box.far ?_ ?_ _; rotate_left 1; (first | (dsimp only; omega) | omega | (simp; omega) | simp)))))).keep hb1
    have B7c := B7.cell
    have B7f := B7.thawed
    have B7z := B7.lt
    have B7k := lt_add B7z
    have hkw1 : Below w.heap.size w w1 := (by repeat (first | fail | (with_reducible exact Below.refl _ _) | (with_reducible refine Below.al ?_ _) | (with_reducible refine Below.drN ?_ _) | (with_reducible refine Below.drew ?_) | (with_reducible refine Below.st ?_ ?_ _; rotate_left 1; (first | (dsimp only; omega) | omega | (simp; omega) | simp)) | (with_reducible refine Below.go ?_ hb1) | exact Below.refl _ _))
    replace h0 := h0.keep hkw1
    replace x0 := x0.keep hkw1
    replace x1 := x1.keep hkw1
    have hsw1 := hkw1.size
    by_cases hf2 : splitFault d p = 0
    · have HF2 := Lib.hid hf2
      have HE2 : Hid (errV (splitFault d p) = .nilIface) := Lib.hid (errV_nil hf2)
      clear hf2
      go_wp2_with fail
      refine (batchSplit_any d p _ _ ⟨a2, n2, k2, b2, o2, a3, n3, k3, b3, o3, rfl, x0, x1⟩).mono ?_
      rw [HE2.out]
      rintro e w2 ⟨u2, rfl, hb2, hu2, _⟩
      obtain ⟨aL, kL, bL, rfl, rL⟩ := hu2 HF2.out
      have hkw2 : Below w1.heap.size w1 w2 := (by repeat (first | fail | (with_reducible exact Below.refl _ _) | (with_reducible refine Below.al ?_ _) | (with_reducible refine Below.drN ?_ _) | (with_reducible refine Below.drew ?_) | (with_reducible refine Below.st ?_ ?_ _; rotate_left 1; (first | (dsimp only; omega) | omega | (simp; omega) | simp)) | (with_reducible refine Below.go ?_ hb2) | exact Below.refl _ _))
      replace B4 := B4.keep hkw2
      replace B4c := B4.cell
      replace B4f := B4.thawed
      replace B4z := B4.lt
      replace B4k := lt_add B4z
      replace B5 := B5.keep hkw2
      replace B5c := B5.cell
      replace B5f := B5.thawed
      replace B5z := B5.lt
      replace B5k := lt_add B5z
      replace B7 := B7.keep hkw2
      replace B7c := B7.cell
      replace B7f := B7.thawed
      replace B7z := B7.lt
      replace B7k := lt_add B7z
      replace h0 := h0.keep hkw2
      have hsw2 := hkw2.size
      have hbw2 : Below w.heap.size w w2 := (by repeat (first | fail | (with_reducible exact Below.refl _ _) | (with_reducible refine Below.al ?_ _) | (with_reducible refine Below.drN ?_ _) | (with_reducible refine Below.drew ?_) | (with_reducible refine Below.st ?_ ?_ _; rotate_left 1; (first | (dsimp only; omega) | omega | (simp; omega) | simp)) | (with_reducible refine Below.go ?_ hb2) | (with_reducible refine Below.go ?_ hb1) | exact Below.refl _ _))
      have rL9 : RowAt Form.bat w2 (newB w.heap.size) aL p.toNat kL bL 0 (partsTo d (sizesIn d p) p.toNat) := rL.wide (fun b hb _ => Nat.le_trans (by have := hkw1.size; exact this) hb)
      clear hu2 rL x0 x1 hb1 hb2
      have hdc : -9223372036854775808 ≤ d.I.cols ∧ d.I.cols ≤ 9223372036854775807 := by
        obtain ⟨R, K, xs, e, _, hK, _⟩ := mat_form (Bat.fault_ok (splitFault_ok HF2.out).1).1
        rw [e]
        dsimp only
        omega
      by_cases hf3 : netWideFault s.N d.I.cols = 0
      · have HF3 := Lib.hid hf3
        have HE3 : Hid (errV (netWideFault s.N d.I.cols) = .nilIface) := Lib.hid (errV_nil hf3)
        have HK3 : Hid (okOr (netWideFault s.N d.I.cols) (netW s.N d.I.cols n) = netW s.N d.I.cols n) := Lib.hid (okOr_ok hf3)
        have HF4 := Lib.hid (oneFault_4 (ln := ln) (kp := kp) HS.out HF2.out hf3)
        clear hf3
        go_wp2_with fail
        refine (netCheck_any s.N F _ _ _ _ _ d.I.cols _ h0 hdc).mono ?_
        rw [HE3.out, HK3.out]
        rintro e w3 ⟨rfl, hb3⟩
        have hkw3 : Below w2.heap.size w2 w3 := (by repeat (first | fail | (with_reducible exact Below.refl _ _) | (with_reducible refine Below.al ?_ _) | (with_reducible refine Below.drN ?_ _) | (with_reducible refine Below.drew ?_) | (with_reducible refine Below.st ?_ ?_ _; rotate_left 1; (first | (dsimp only; omega) | omega | (simp; omega) | simp)) | (with_reducible refine Below.go ?_ hb3) | exact Below.refl _ _))
        replace B4 := B4.keep hkw3
        replace B4c := B4.cell
        replace B4f := B4.thawed
        replace B4z := B4.lt
        replace B4k := lt_add B4z
        replace B5 := B5.keep hkw3
        replace B5c := B5.cell
        replace B5f := B5.thawed
        replace B5z := B5.lt
        replace B5k := lt_add B5z
        replace B7 := B7.keep hkw3
        replace B7c := B7.cell
        replace B7f := B7.thawed
        replace B7z := B7.lt
        replace B7k := lt_add B7z
        replace rL9 := rL9.keep hkw3
        have hsw3 := hkw3.size
        have hbe : Below w.heap.size w w3 := (by repeat (first | fail | (with_reducible exact Below.refl _ _) | (with_reducible exact hbw2) | (with_reducible refine Below.al ?_ _) | (with_reducible refine Below.drN ?_ _) | (with_reducible refine Below.drew ?_) | (with_reducible refine Below.st ?_ ?_ _; rotate_left 1; (first | (dsimp only; omega) | omega | (simp; omega) | simp)) | (with_reducible refine Below.go ?_ hb3) | exact Below.refl _ _ | exact hbw2))
        obtain ⟨W, hW⟩ : ∃ W, netW s.N d.I.cols n = W := ⟨_, rfl⟩
        have HW : Hid (netW s.N d.I.cols s.N.length = W) := Lib.hid (by rw [HL0.out]; exact hW)
        rw [hW]
        clear hW hb3 hbw2 h0
        by_cases q1 : W = d.W.cols
        · have e1 : (W != d.W.cols) = false := by rw [bne_eq_false_iff_eq]; exact q1
          have HQ1 : Hid (netW s.N d.I.cols s.N.length = d.W.cols) := Lib.hid (by rw [HW.out]; exact q1)
          have hp := splitFault_ok HF2.out
          obtain ⟨a9, n9, k9, b9, o9, a8, n8, k8, b8, o8, c0, _⟩ := bat_cells (i := 0) (d := partOf d (sizesIn d p) 0) rL9 (by
            unfold partsTo
            rw [List.getElem?_map, List.getElem?_range (by omega)]
            rfl)
          have hpw := (part_whole (k := 0) (Bat.fault_ok hp.1).1 (sizes_sum HF2.out)).2.1
          have hc0 : (partOf d (sizesIn d p) 0).I.rows = (nx (sizesIn d p) 0 : Int) := hpw
          obtain ⟨Z, hZ⟩ : ∃ Z, nx (sizesIn d p) 0 = Z := ⟨_, rfl⟩
          rw [hZ] at hc0
          rw [hc0] at c0
          have hp0 : 0 < p.toNat := by omega
          obtain rfl := rL9.ptr hp0
          have pI : (0 : Int) < (p.toNat : Int) := by omega
          have HZ := Lib.hid hZ
          have HRL := Lib.hid rL9
          clear hp hpw hc0 hZ q1 rL9
          by_cases q2 : 12 < Z
          · have e2 : ((Z : Int) > 12) = True := eq_true (by omega)
            have HNZ : Hid ((1 : Int) ≠ 0) := Lib.hid (by decide)
            -- 1: the fault, by rw [HF4.out, if_neg (by simp [HQ1.out]), if_pos (by rw [HZ.out]; exact q2)]: why
            have HR : Hid (oneFault s d p ln kp = 1) := Lib.hid (by rw [HF4.out, if_neg (by simp [HQ1.out]), if_pos (by rw [HZ.out]; exact q2)])
            go_wp2
            refine bodyPost_ret (v := .tuple #[.slice none 0 0, .iface 56 (.int .i64 (1))]) (by simp [results, Try.results28, go_sem]) rfl ⟨_, by rw [HR.out, errV_err HNZ.out], hbe, fun h => absurd (HR.out.symm.trans h) HNZ.out, fun _ => rfl⟩
          · have e2 : ((Z : Int) > 12) = False := eq_false (by omega)
            have HQ2 : Hid (¬ 12 < nx (sizesIn d p) 0) := Lib.hid (by rw [HZ.out]; exact q2)
            clear q2
            by_cases r1 : ln < 0
            · have i1 : (ln < 0) = True := eq_true r1
              have HQ3 : Hid (ln < 0 ∨ 256 < ln ∨ kp < 0 ∨ 256 < kp) := Lib.hid (Or.inl r1)
              -- the way out where the rates are out of their ends
              have HNZ : Hid ((1 : Int) ≠ 0) := Lib.hid (by decide)
              -- 1: the fault, by rw [HF4.out, if_neg (by simp [HQ1.out]), if_neg HQ2.out, if_pos HQ3.out]: why
              have HR : Hid (oneFault s d p ln kp = 1) := Lib.hid (by rw [HF4.out, if_neg (by simp [HQ1.out]), if_neg HQ2.out, if_pos HQ3.out])
              go_wp2
              refine bodyPost_ret (v := .tuple #[.slice none 0 0, .iface 56 (.int .i64 (1))]) (by simp [results, Try.results28, go_sem]) rfl ⟨_, by rw [HR.out, errV_err HNZ.out], hbe, fun h => absurd (HR.out.symm.trans h) HNZ.out, fun _ => rfl⟩
            · have i1 : (ln < 0) = False := eq_false r1
              by_cases r2 : 256 < ln
              · have i2 : (ln > 256) = True := eq_true r2
                have HQ3 : Hid (ln < 0 ∨ 256 < ln ∨ kp < 0 ∨ 256 < kp) := Lib.hid (Or.inr (Or.inl r2))
                -- the way out where the rates are out of their ends
                have HNZ : Hid ((1 : Int) ≠ 0) := Lib.hid (by decide)
                -- 1: the fault, by rw [HF4.out, if_neg (by simp [HQ1.out]), if_neg HQ2.out, if_pos HQ3.out]: why
                have HR : Hid (oneFault s d p ln kp = 1) := Lib.hid (by rw [HF4.out, if_neg (by simp [HQ1.out]), if_neg HQ2.out, if_pos HQ3.out])
                go_wp2
                refine bodyPost_ret (v := .tuple #[.slice none 0 0, .iface 56 (.int .i64 (1))]) (by simp [results, Try.results28, go_sem]) rfl ⟨_, by rw [HR.out, errV_err HNZ.out], hbe, fun h => absurd (HR.out.symm.trans h) HNZ.out, fun _ => rfl⟩
              · have i2 : (ln > 256) = False := eq_false r2
                by_cases r3 : kp < 0
                · have i3 : (kp < 0) = True := eq_true r3
                  have HQ3 : Hid (ln < 0 ∨ 256 < ln ∨ kp < 0 ∨ 256 < kp) := Lib.hid (Or.inr (Or.inr (Or.inl r3)))
                  -- the way out where the rates are out of their ends
                  have HNZ : Hid ((1 : Int) ≠ 0) := Lib.hid (by decide)
                  -- 1: the fault, by rw [HF4.out, if_neg (by simp [HQ1.out]), if_neg HQ2.out, if_pos HQ3.out]: why
                  have HR : Hid (oneFault s d p ln kp = 1) := Lib.hid (by rw [HF4.out, if_neg (by simp [HQ1.out]), if_neg HQ2.out, if_pos HQ3.out])
                  go_wp2
                  refine bodyPost_ret (v := .tuple #[.slice none 0 0, .iface 56 (.int .i64 (1))]) (by simp [results, Try.results28, go_sem]) rfl ⟨_, by rw [HR.out, errV_err HNZ.out], hbe, fun h => absurd (HR.out.symm.trans h) HNZ.out, fun _ => rfl⟩
                · have i3 : (kp < 0) = False := eq_false r3
                  by_cases r4 : 256 < kp
                  · have i4 : (kp > 256) = True := eq_true r4
                    have HQ3 : Hid (ln < 0 ∨ 256 < ln ∨ kp < 0 ∨ 256 < kp) := Lib.hid (Or.inr (Or.inr (Or.inr r4)))
                    -- the way out where the rates are out of their ends
                    have HNZ : Hid ((1 : Int) ≠ 0) := Lib.hid (by decide)
                    -- 1: the fault, by rw [HF4.out, if_neg (by simp [HQ1.out]), if_neg HQ2.out, if_pos HQ3.out]: why
                    have HR : Hid (oneFault s d p ln kp = 1) := Lib.hid (by rw [HF4.out, if_neg (by simp [HQ1.out]), if_neg HQ2.out, if_pos HQ3.out])
                    go_wp2
                    refine bodyPost_ret (v := .tuple #[.slice none 0 0, .iface 56 (.int .i64 (1))]) (by simp [results, Try.results28, go_sem]) rfl ⟨_, by rw [HR.out, errV_err HNZ.out], hbe, fun h => absurd (HR.out.symm.trans h) HNZ.out, fun _ => rfl⟩
                  · have i4 : (kp > 256) = False := eq_false r4
                    have HR : Hid (oneFault s d p ln kp = 0) := Lib.hid (by rw [HF4.out, if_neg (by simp [HQ1.out]), if_neg HQ2.out, if_neg (by omega)])
                    go_wp2
                    refine bodyPost_ret (v := .tuple #[.slice (some ⟨bL, 0, none⟩) p.toNat kL, .nilIface]) (by simp [results, Try.results28, go_sem]) rfl ⟨_, by rw [HR.out, errV_nil rfl], hbe, fun _ => ⟨_, kL, bL, rfl, HRL.out⟩, fun h => absurd HR.out h⟩
        · have e1 : (W != d.W.cols) = true := by rw [bne_iff_ne]; exact q1
          have HNZ : Hid ((2 : Int) ≠ 0) := Lib.hid (by decide)
          have HQ1 : Hid (netW s.N d.I.cols s.N.length ≠ d.W.cols) := Lib.hid (by rw [HW.out]; exact q1)
          clear q1 rL9
          -- 2: the fault, by rw [HF4.out, if_pos HQ1.out]: why
          have HR : Hid (oneFault s d p ln kp = 2) := Lib.hid (by rw [HF4.out, if_pos HQ1.out])
          go_wp2
          refine bodyPost_ret (v := .tuple #[.slice none 0 0, .iface 56 (.int .i64 (2))]) (by simp [results, Try.results28, go_sem]) rfl ⟨_, by rw [HR.out, errV_err HNZ.out], hbe, fun h => absurd (HR.out.symm.trans h) HNZ.out, fun _ => rfl⟩
      · have HNZ := Lib.hid hf3
        have HE3 : Hid (errV (netWideFault s.N d.I.cols) = .iface 56 (.int .i64 (netWideFault s.N d.I.cols))) := Lib.hid (errV_err hf3)
        have HK3 : Hid (okOr (netWideFault s.N d.I.cols) (netW s.N d.I.cols n) = 0) := Lib.hid (okOr_bad hf3)
        clear hf3
        go_wp2_with fail
        refine (netCheck_any s.N F _ _ _ _ _ d.I.cols _ h0 hdc).mono ?_
        rw [HE3.out, HK3.out]
        rintro e w3 ⟨rfl, hb3⟩
        have hbe : Below w.heap.size w w3 := (by repeat (first | fail | (with_reducible exact Below.refl _ _) | (with_reducible exact hbw2) | (with_reducible refine Below.al ?_ _) | (with_reducible refine Below.drN ?_ _) | (with_reducible refine Below.drew ?_) | (with_reducible refine Below.st ?_ ?_ _; rotate_left 1; (first | (dsimp only; omega) | omega | (simp; omega) | simp)) | (with_reducible refine Below.go ?_ hb3) | exact Below.refl _ _ | exact hbw2))
        -- netWideFault s.N d.I.cols: the fault, oneFault_3 HS.out HF2.out HNZ.out: why
        have HR : Hid (oneFault s d p ln kp = netWideFault s.N d.I.cols) := Lib.hid (oneFault_3 HS.out HF2.out HNZ.out)
        go_wp2
        refine bodyPost_ret (v := .tuple #[.slice none 0 0, .iface 56 (.int .i64 (netWideFault s.N d.I.cols))]) (by simp [results, Try.results28, go_sem]) rfl ⟨_, by rw [HR.out, errV_err HNZ.out], hbe, fun h => absurd (HR.out.symm.trans h) HNZ.out, fun _ => rfl⟩
    · have HNZ := Lib.hid hf2
      have HE2 : Hid (errV (splitFault d p) = .iface 56 (.int .i64 (splitFault d p))) := Lib.hid (errV_err hf2)
      clear hf2
      go_wp2_with fail
      refine (batchSplit_any d p _ _ ⟨a2, n2, k2, b2, o2, a3, n3, k3, b3, o3, rfl, x0, x1⟩).mono ?_
      rw [HE2.out]
      rintro e w2 ⟨u2, rfl, hb2, _, _⟩
      have hbe : Below w.heap.size w w2 := (by repeat (first | fail | (with_reducible exact Below.refl _ _) | (with_reducible refine Below.al ?_ _) | (with_reducible refine Below.drN ?_ _) | (with_reducible refine Below.drew ?_) | (with_reducible refine Below.st ?_ ?_ _; rotate_left 1; (first | (dsimp only; omega) | omega | (simp; omega) | simp)) | (with_reducible refine Below.go ?_ hb2) | (with_reducible refine Below.go ?_ hb1) | exact Below.refl _ _))
      -- splitFault d p: the fault, oneFault_2 HS.out HNZ.out: why
      have HR : Hid (oneFault s d p ln kp = splitFault d p) := Lib.hid (oneFault_2 HS.out HNZ.out)
      go_wp2
      refine bodyPost_ret (v := .tuple #[.slice none 0 0, .iface 56 (.int .i64 (splitFault d p))]) (by simp [results, Try.results28, go_sem]) rfl ⟨_, by rw [HR.out, errV_err HNZ.out], hbe, fun h => absurd (HR.out.symm.trans h) HNZ.out, fun _ => rfl⟩
  · have HNZ := Lib.hid hs
    have HES : Hid (errV s.fault = .iface 56 (.int .i64 s.fault)) := Lib.hid (errV_err hs)
    clear hs
    go_enter Try.func28, Try.ntmps28
    go_wp2_with fail
    refine (trainCheck_any s F G _ _ _ _ _ _ _ _ _ _ _ (h0.alloc _ |>.alloc _ |>.alloc _) (h1.alloc _ |>.alloc _ |>.alloc _)).mono ?_
    rw [HES.out]
    rintro e w1 ⟨rfl, hb1⟩
    have hbe : Below w.heap.size w w1 := (by repeat (first | fail | (with_reducible exact Below.refl _ _) | (with_reducible refine Below.al ?_ _) | (with_reducible refine Below.drN ?_ _) | (with_reducible refine Below.drew ?_) | (with_reducible refine Below.st ?_ ?_ _; rotate_left 1; (first | (dsimp only; omega) | omega | (simp; omega) | simp)) | (with_reducible refine Below.go ?_ hb1) | exact Below.refl _ _))
    -- s.fault: the fault, oneFault_1 HNZ.out: why
    have HR : Hid (oneFault s d p ln kp = s.fault) := Lib.hid (oneFault_1 HNZ.out)
    go_wp2
    refine bodyPost_ret (v := .tuple #[.slice none 0 0, .iface 56 (.int .i64 (s.fault))]) (by simp [results, Try.results28, go_sem]) rfl ⟨_, by rw [HR.out, errV_err HNZ.out], hbe, fun h => absurd (HR.out.symm.trans h) HNZ.out, fun _ => rfl⟩
/-- a state that the call has made -/
def StaNew (base : Nat) (w : World) (v : Value) (s : Sta) : Prop := ∃ a0 n k0 b0 a1 n1 k1 b1, v = .agg #[.slice a0 n k0, .slice a1 n1 k1, .int .i64 s.steps] ∧ RowAt Form.lay w (newB base) a0 n k0 b0 0 s.N ∧ RowAt Form.grd w (newB base) a1 n1 k1 b1 0 s.V
theorem trainStep_ok (s : Sta) (by_ : List Grd) (ln kp : Int) (F G H : Nat → Prop) (a0 a1 a2 : Option Addr) (n n1 n2 k0 k1 k2 b0 b1 b2 o0 o1 o2 : Nat) (w : World) (h0 : RowAt Form.lay w F a0 n k0 b0 o0 s.N) (h1 : RowAt Form.grd w G a1 n1 k1 b1 o1 s.V) (h2 : RowAt Form.grd w H a2 n2 k2 b2 o2 by_)
    (ms : List Lay) (gs : List Grd) (hf : stepFault s.N s.V by_ ln kp = 0) (hm : stepLays s.N s.V by_ ln kp s.N.length = ms) (hg : stepGrds s.N s.V by_ kp s.N.length = gs) (hst : 0 ≤ s.steps ∧ s.steps ≤ 1000000000) :
    Calls Try.prog 31 #[.agg #[.slice a0 n k0, .slice a1 n1 k1, .int .i64 s.steps], .slice a2 n2 k2, .agg #[.int .i64 ln, .int .i64 kp]] w fun e w' => ∃ v, e = .returned v ∧ Below w.heap.size w w' ∧ StaNew w.heap.size w' v ⟨ms, gs, s.steps + 1⟩ := by
  obtain ⟨st0, st1⟩ := hst
  obtain ⟨wz, hwz⟩ : ∃ wz, ((w.alloc (.cells #[.slice a0 n k0, .slice a1 n1 k1, .int .i64 s.steps] 48)).alloc (.cells #[.int .i64 ln, .int .i64 kp] 46)).alloc (.cells #[.slice none 0 0, .slice none 0 0, .int .i64 0] 48) = wz := ⟨_, rfl⟩
  have hbz : Below w.heap.size w wz := by rw [← hwz]; exact (by repeat (first | fail | (with_reducible exact Below.refl _ _) | (with_reducible refine Below.al ?_ _) | (with_reducible refine Below.drN ?_ _) | (with_reducible refine Below.drew ?_) | (with_reducible refine Below.st ?_ ?_ _; rotate_left 1; (first | (dsimp only; omega) | omega | (simp; omega) | simp)) | exact Below.refl _ _))
  have Z4 : Box wz w.heap.size [.slice a0 n k0, .slice a1 n1 k1, .int .i64 s.steps] 48 := by rw [← hwz]; exact (by repeat (first | fail | (with_reducible refine (Box.new' _ w.heap.size _ _ ?_); (simp; done)) | (with_reducible refine Box.alloc ?_ _) | (with_reducible refine Box.drewN ?_ _) | (with_reducible refine Box.drew ?_) | (with_reducible refine Box.far ?_ ?_ _; rotate_left 1; (first | (dsimp only; omega) | omega | (simp; omega) | simp))))
  have Z6 : Box wz (w.heap.size + 1 + 1) [.slice none 0 0, .slice none 0 0, .int .i64 0] 48 := by rw [← hwz]; exact (by repeat (first | fail | (with_reducible refine (Box.new' _ (w.heap.size + 1 + 1) _ _ ?_); (simp; done)) | (with_reducible refine Box.alloc ?_ _) | (with_reducible refine Box.drewN ?_ _) | (with_reducible refine Box.drew ?_) | (with_reducible refine Box.far ?_ ?_ _; rotate_left 1; (first | (dsimp only; omega) | omega | (simp; omega) | simp))))
  have HWZ := Lib.hid hwz
  clear hwz
  go_enter Try.func31, Try.ntmps31
  go_wp2_with fail
  rw [HWZ.out]
  refine (stepDo_is s.N s.V by_ ln kp F G H a0 a1 a2 n n1 n2 k0 k1 k2 b0 b1 b2 o0 o1 o2 wz (h0.keep hbz) (h1.keep hbz) (h2.keep hbz) ms gs hf hm hg).mono ?_
  rintro e w1 ⟨a', b', a'', b'', rfl, hb1, r0, r1⟩
  have Y4 := Z4.keep hb1
  have Y6 := Z6.keep hb1
  have c2 := Y4.cell 2
  have f0 := Y6.thawed 0
  have f1 := Y6.thawed 1
  have f2 := Y6.thawed 2
  have d0 := Y6.cell 0
  have d1 := Y6.cell 1
  have d2 := Y6.cell 2
  have bz := ((Y6.set 0 (.slice a' n n)).set 1 (.slice a'' n n)).set 2 (.int .i64 (s.steps + 1))
  have z0 := bz.cell 0
  have z1 := bz.cell 1
  have z2 := bz.cell 2
  have hbw : Below w.heap.size w (((w1.setCell ⟨w.heap.size + 1 + 1, 0, none⟩ (.slice a' n n)).setCell ⟨w.heap.size + 1 + 1, 1, none⟩ (.slice a'' n n)).setCell ⟨w.heap.size + 1 + 1, 2, none⟩ (.int .i64 (s.steps + 1))) := (((hbz.trans (hb1.mono hbz.size)).setCell (by dsimp only; omega) _).setCell (by dsimp only; omega) _).setCell (by dsimp only; omega) _
  have hf9 : Far (fun c => c = w.heap.size + 1 + 1) w1 (((w1.setCell ⟨w.heap.size + 1 + 1, 0, none⟩ (.slice a' n n)).setCell ⟨w.heap.size + 1 + 1, 1, none⟩ (.slice a'' n n)).setCell ⟨w.heap.size + 1 + 1, 2, none⟩ (.int .i64 (s.steps + 1))) := (((Far.refl (fun c => c = w.heap.size + 1 + 1) w1).st (fun _ => rfl) _).st (fun _ => rfl) _).st (fun _ => rfl) _
  have hZ := Z6.lt
  have q0 := r0.farS hf9 (fun c hc _ hh => by have h3 : wz.heap.size ≤ c := hc; have h4 : c = w.heap.size + 1 + 1 := hh; omega)
  have q1 := r1.farS hf9 (fun c hc _ hh => by have h3 : wz.heap.size ≤ c := hc; have h4 : c = w.heap.size + 1 + 1 := hh; omega)
  have hss := hbz.size
  have HP := Lib.hid (And.intro hbw (And.intro (q0.wide (G := newB w.heap.size) (fun c hc _ => Nat.le_trans hss hc)) (q1.wide (G := newB w.heap.size) (fun c hc _ => Nat.le_trans hss hc))))
  clear hbw hf9 r0 r1 q0 q1 bz Y4 Y6 Z4 Z6 h0 h1 h2
  go_wp2
  refine bodyPost_ret (v := .agg #[.slice a' n n, .slice a'' n n, .int .i64 (s.steps + 1)]) (by simp [results, Try.results31, go_sem, z0, z1, z2]) rfl ⟨_, rfl, HP.out.1, a', n, n, b', a'', n, n, b'', rfl, HP.out.2.1, HP.out.2.2⟩
end Go.Proofs.Ytgknjikjjklaiaa
end
