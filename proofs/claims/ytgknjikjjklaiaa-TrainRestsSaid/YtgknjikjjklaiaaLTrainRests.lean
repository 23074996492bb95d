/- TrainRests: where just what comes is wanted nothing is learned, if nothing was under way: the law returns true, and the input reads as it did. No condition. -/
import Derived.Test.YtgknjikjjklaiaaRows
import Derived.Test.YtgknjikjjklaiaaTrain5
import Derived.Test.YtgknjikjjklaiaaJPlain
import Derived.Test.YtgknjikjjklaiaaSameL
import Derived.Test.YtgknjikjjklaiaaOpenS
import Derived.Deep.DeepHandedRow
import Derived.Deep.RegionHeld3
import Derived.Deep.CutBlock
import Derived.Deep.DeepCutAuto
set_option linter.unusedVariables false
set_option linter.unusedSimpArgs false
set_option linter.unusedSectionVars false
namespace Gal
open Go Go.RowKit
theorem go_lays {N : List Lay} {x : Mat} : ∀ {k : Nat}, goTo N x k = 0 → ∀ i, i < k → (lx N i).fault = 0
  | 0, _, i, hi => absurd hi (Nat.not_lt_zero _)
  | k + 1, h, i, hi => by
    have h0 : goTo N x k = 0 := Classical.byContradiction fun hne => hne ((goTo_stop (Nat.le_succ k) hne).symm.trans h)
    rcases Nat.lt_or_ge i k with h1 | h1
    · exact go_lays h0 i h1
    · obtain rfl : i = k := by omega
      rw [goTo_succ h0] at h
      exact (Lay.goFault_ok h).1
theorem cells_11 {w : World} {p q r c j : Nat} {s0 s1 s2 x0 x1 x2 y0 y1 m0 m1 m2 : Value} {T U V : TypeId} (s : Box w p [s0, s1, s2] T) (x : Box w q [x0, x1, x2] U) (m : Cells3 w c j m0 m1 m2) (y : Box w r [y0, y1] V) :
    w.cell? ⟨p, 0, none⟩ = some s0 ∧ w.cell? ⟨p, 1, none⟩ = some s1 ∧ w.cell? ⟨p, 2, none⟩ = some s2 ∧ w.cell? ⟨q, 0, none⟩ = some x0 ∧ w.cell? ⟨q, 1, none⟩ = some x1 ∧ w.cell? ⟨q, 2, none⟩ = some x2 ∧ w.cell? ⟨c, j, none⟩ = some m0 ∧ w.cell? ⟨c, j + 1, none⟩ = some m1 ∧ w.cell? ⟨c, j + 2, none⟩ = some m2 ∧ w.cell? ⟨r, 0, none⟩ = some y0 ∧ w.cell? ⟨r, 1, none⟩ = some y1 :=
  ⟨s.cell 0, s.cell 1, s.cell 2, x.cell 0, x.cell 1, x.cell 2, m.c0, m.c1, m.c2, y.cell 0, y.cell 1⟩
end Gal
namespace Go.Proofs.Ytgknjikjjklaiaa.lawTrainRests
open Go.ChangeShapes Go.WideShapes Go.ChangeAt Go.RowKit Gal
set_option maxRecDepth 100000
set_option maxHeartbeats 8000000
theorem walk (s : Sta) (v0 : Value) (x : Mat) (v1 : Value) (p : Int) (r : Rts) (v3 : Value) (w : World) (h0 : StaV w v0 s) (h1 : MatAt w v1 x) (hp : (Lit.int IntKind.i64 p).wf = true) (h3 : RatesAt w v3 r) :
    Calls Try.prog 4 #[v0, v1, .int .i64 p, v3] w fun e w' => e = .returned (.bool true) ∧ Below w.heap.size w w' := by
  obtain ⟨a0, n, k0, b0, o0, a1, n1, k1, b1, o1, rfl, q0, q1⟩ := h0
  obtain ⟨a2, n2, k2, b2, o2, rfl, q2⟩ := h1
  obtain ⟨ln, kp⟩ := r
  unfold RatesAt at h3
  subst h3
  have HL := Lib.hid q0.len
  clear hp
  go_enter Try.func4, Try.ntmps4
  go_wp2_with fail
  refine (trainFact_any _).mono ?_
  rintro e w1 ⟨rfl, hb1⟩
  have B4 := ((show Box _ w.heap.size [.slice a0 n k0, .slice a1 n1 k1, .int .i64 s.steps] 44 from (by repeat (first | fail | (with_reducible refine (Box.new' _ w.heap.size _ _ ?_); (simp; done)) | (with_reducible refine Box.alloc ?_ _) | (with_reducible refine Box.drewN ?_ _) | (with_reducible refine Box.drew ?_) | (with_reducible refine Box.far ?_ ?_ _; rotate_left 1; (first | (dsimp only; omega) | omega | (simp; omega) | simp)))))).keep hb1
  have B4c := B4.cell
  have B4f := B4.thawed
  have B4z := B4.lt
  have B4k := lt_add B4z
  have B5 := ((show Box _ (w.heap.size + 1) [.int .i64 x.rows, .int .i64 x.cols, .slice a2 n2 k2] 25 from (by repeat (first | fail | (with_reducible refine (Box.new' _ (w.heap.size + 1) _ _ ?_); (simp; done)) | (with_reducible refine Box.alloc ?_ _) | (with_reducible refine Box.drewN ?_ _) | (with_reducible refine Box.drew ?_) | (with_reducible refine Box.far ?_ ?_ _; rotate_left 1; (first | (dsimp only; omega) | omega | (simp; omega) | simp)))))).keep hb1
  have B5c := B5.cell
  have B5f := B5.thawed
  have B5z := B5.lt
  have B5k := lt_add B5z
  have B7 := ((show Box _ (w.heap.size + 1 + 1) [.int .i64 ln, .int .i64 kp] 46 from (by repeat (first | fail | (with_reducible refine (Box.new' _ (w.heap.size + 1 + 1) _ _ ?_); (simp; done)) | (with_reducible refine Box.alloc ?_ _) | (with_reducible refine Box.drewN ?_ _) | (with_reducible refine Box.drew ?_) | (with_reducible refine Box.far ?_ ?_ _; rotate_left 1; (first | (dsimp only; omega) | omega | (simp; omega) | simp)))))).keep hb1
  have B7c := B7.cell
  have B7f := B7.thawed
  have B7z := B7.lt
  have B7k := lt_add B7z
  have hkw1 : Below w.heap.size w w1 := (by repeat (first | fail | (with_reducible exact Below.refl _ _) | (with_reducible refine Below.al ?_ _) | (with_reducible refine Below.drN ?_ _) | (with_reducible refine Below.drew ?_) | (with_reducible refine Below.st ?_ ?_ _; rotate_left 1; (first | (dsimp only; omega) | omega | (simp; omega) | simp)) | (with_reducible refine Below.go ?_ hb1) | exact Below.refl _ _))
  replace q0 := q0.keep hkw1
  replace q2 := q2.keep hkw1
  have hsw1 := hkw1.size
  have hbw1 : Below w.heap.size w w1 := (by repeat (first | fail | (with_reducible exact Below.refl _ _) | (with_reducible refine Below.al ?_ _) | (with_reducible refine Below.drN ?_ _) | (with_reducible refine Below.drew ?_) | (with_reducible refine Below.st ?_ ?_ _; rotate_left 1; (first | (dsimp only; omega) | omega | (simp; omega) | simp)) | (with_reducible refine Below.go ?_ hb1) | exact Below.refl _ _))
  by_cases hg : netGoFault s.N x = 0
  · have HG := Lib.hid hg
    have HEG : Hid (errV (netGoFault s.N x) = .nilIface) := Lib.hid (errV_nil hg)
    have hgt : goTo s.N x s.N.length = 0 ∧ s.N.length ≤ 12 := by
      unfold netGoFault at hg
      by_cases g1 : 12 < s.N.length
      · rw [if_pos g1] at hg; exact absurd hg (by decide)
      · rw [if_neg g1] at hg
        by_cases g2 : x.fault = 0
        · rw [if_neg (by simp [g2])] at hg
          exact ⟨hg, by omega⟩
        · rw [if_pos g2] at hg; exact absurd hg g2
    have HZM : Hid (∀ i, i < n → (lx s.N i).W.cells.length * 8 ≤ 140737488355328 ∧ (lx s.N i).B.cells.length * 8 ≤ 140737488355328) := Lib.hid (fun i hi => by
      obtain ⟨_, _, e3, e4, _⟩ := Lay.fault_ok (go_lays hgt.1 i (by rw [HL.out]; exact hi))
      exact ⟨fault_small e3, fault_small e4⟩)
    have hn : n ≤ 12 := by have := hgt.2; have := HL.out; omega
    clear hg hgt
    go_wp2_with fail
    refine (netGo_any s.N anyB _ _ _ _ _ x _ _ q0 (MatAt.mk q2)).mono ?_
    rintro e w2 ⟨uG, rfl, hb2, huG, _⟩
    obtain ⟨aG, kG, bG, rfl, rG⟩ := huG HG.out
    rw [HEG.out]
    obtain ⟨M, hM⟩ : ∃ M, n + 1 = M := ⟨_, rfl⟩
    rw [hM] at rG ⊢
    have HMN := Lib.hid hM
    have hkw2 : Below w1.heap.size w1 w2 := (by repeat (first | fail | (with_reducible exact Below.refl _ _) | (with_reducible refine Below.al ?_ _) | (with_reducible refine Below.drN ?_ _) | (with_reducible refine Below.drew ?_) | (with_reducible refine Below.st ?_ ?_ _; rotate_left 1; (first | (dsimp only; omega) | omega | (simp; omega) | simp)) | (with_reducible refine Below.go ?_ hb2) | exact Below.refl _ _))
    replace B4 := B4.keep hkw2
    replace B4c := B4.cell
    replace B4f := B4.thawed
    replace B4z := B4.lt
    replace B4k := lt_add B4z
    replace B5 := B5.keep hkw2
    replace B5c := B5.cell
    replace B5f := B5.thawed
    replace B5z := B5.lt
    replace B5k := lt_add B5z
    replace B7 := B7.keep hkw2
    replace B7c := B7.cell
    replace B7f := B7.thawed
    replace B7z := B7.lt
    replace B7k := lt_add B7z
    replace q0 := q0.keep hkw2
    replace q2 := q2.keep hkw2
    have hsw2 := hkw2.size
    have en : ((M : Int) == 0) = false := by rw [beq_eq_false_iff_ne]; omega
    clear huG hM
    go_wp2_with fail
    refine (trainBegin_any s.N anyB _ _ _ _ _ _ q0 HZM.out (by omega)).mono ?_
    rintro e w3 ⟨vB, rfl, hb3, aN, nN, kN, bN, aV, nV, kV, bV, rfl, r0, r1⟩
    have hkw3 : Below w2.heap.size w2 w3 := (by repeat (first | fail | (with_reducible exact Below.refl _ _) | (with_reducible refine Below.al ?_ _) | (with_reducible refine Below.drN ?_ _) | (with_reducible refine Below.drew ?_) | (with_reducible refine Below.st ?_ ?_ _; rotate_left 1; (first | (dsimp only; omega) | omega | (simp; omega) | simp)) | (with_reducible refine Below.go ?_ hb3) | exact Below.refl _ _))
    replace B4 := B4.keep hkw3
    replace B4c := B4.cell
    replace B4f := B4.thawed
    replace B4z := B4.lt
    replace B4k := lt_add B4z
    replace B5 := B5.keep hkw3
    replace B5c := B5.cell
    replace B5f := B5.thawed
    replace B5z := B5.lt
    replace B5k := lt_add B5z
    replace B7 := B7.keep hkw3
    replace B7c := B7.cell
    replace B7f := B7.thawed
    replace B7z := B7.lt
    replace B7k := lt_add B7z
    replace q0 := q0.keep hkw3
    replace q2 := q2.keep hkw3
    replace rG := rG.keep hkw3
    have hsw3 := hkw3.size
    have hbw3 : Below w.heap.size w w3 := (by repeat (first | fail | (with_reducible exact Below.refl _ _) | (with_reducible exact hbw1) | (with_reducible refine Below.al ?_ _) | (with_reducible refine Below.drN ?_ _) | (with_reducible refine Below.drew ?_) | (with_reducible refine Below.st ?_ ?_ _; rotate_left 1; (first | (dsimp only; omega) | omega | (simp; omega) | simp)) | (with_reducible refine Below.go ?_ hb3) | (with_reducible refine Below.go ?_ hb2) | exact Below.refl _ _ | exact hbw1))
    obtain ⟨a6, n6, k6, b6, o6, hcm, xg⟩ := mats_cells (i := n) rG (by have := HMN.out; omega)
    have hmx : mx (netOuts s.N x n) n = midOf s.N x := by
      unfold mx midOf
      rw [netOuts_last, HL.out]
      rfl
    rw [hmx] at hcm xg
    rw [Nat.zero_add] at hcm
    obtain ⟨md, hmd⟩ : ∃ md, midOf s.N x = md := ⟨_, rfl⟩
    rw [hmd] at hcm xg
    have HMD := Lib.hid hmd
    obtain rfl := rG.ptr (by have := HMN.out; omega)
    have pI : (n : Int) < (M : Int) := by have := HMN.out; omega
    have pW : IntKind.i64.wrap ((M : Int) - 1) = (n : Int) := by
      have h1 := HMN.out
      rw [IntWalk.i64_in _ (by omega)]
      omega
    have pI0 : (0 : Int) ≤ (n : Int) := by omega
    obtain ⟨pB, hpB⟩ : ∃ pB, w3.heap.size = pB := ⟨_, rfl⟩
    obtain ⟨wb, hwb⟩ : ∃ wb, w3.alloc (.cells #[.slice aN nN kN, .slice aV nV kV, .int .i64 0] 48) = wb := ⟨_, rfl⟩
    have hb4 : Below w3.heap.size w3 wb := by rw [← hwb]; exact (by repeat (first | fail | (with_reducible exact Below.refl _ _) | (with_reducible refine Below.al ?_ _) | (with_reducible refine Below.drN ?_ _) | (with_reducible refine Below.drew ?_) | (with_reducible refine Below.st ?_ ?_ _; rotate_left 1; (first | (dsimp only; omega) | omega | (simp; omega) | simp)) | exact Below.refl _ _))
    have B12 : Box wb pB [.slice aN nN kN, .slice aV nV kV, .int .i64 0] 48 := by rw [← hwb, ← hpB]; exact Box.new _ _ _
    replace B4 := B4.keep hb4
    replace B5 := B5.keep hb4
    replace B7 := B7.keep hb4
    replace q0 := q0.keep hb4
    replace q2 := q2.keep hb4
    replace r0 := r0.keep hb4
    replace r1 := r1.keep hb4
    replace xg := xg.keep hb4
    replace hcm := hcm.keep hb4
    have hbwb : Below w.heap.size w wb := hbw3.trans (hb4.mono hbw3.size)
    have HWB := Lib.hid hwb
    have HPB := Lib.hid hpB
    clear hmx hmd hwb rG q1 hb1 hb2 hb3 hb4 B4c B4f B4z B4k B5c B5f B5z B5k B7c B7f B7z B7k hbw3 hbw1
    have zP := B12.lt
    have zX := B5.lt
    have zR := B7.lt
    have zG := World.block_lt_of_cell? _ _ hcm.c0
    go_wp2
    try rw [HPB.out]
    rw [HWB.out]
    by_cases hf : oneFault ⟨s.N, zeroNet s.N, 0⟩ ⟨x, md⟩ p ln kp = 0
    · have HF := Lib.hid hf
      have HEF : Hid (errV (oneFault ⟨s.N, zeroNet s.N, 0⟩ ⟨x, md⟩ p ln kp) = .nilIface) := Lib.hid (errV_nil hf)
      have HRS := Lib.hid (rests (N := s.N) (x := x) (p := p) (ln := ln) (kp := kp) (by rw [HMD.out]; exact hf))
      clear hf
      go_cut [11, 13, 14] (fun er t13 of wx => ∃ (pU nM kM bM : Nat) (aM : Option Addr) (u1 : Value), er = .nilIface ∧ t13 = .pointer (some ⟨pU, 0, none⟩) ∧ of = .int .i64 0 ∧ Box wx pU [.slice aM nM kM, u1, .int .i64 1] 48 ∧ RowAt Form.lay wx anyB aM nM kM bM 0 s.N ∧ Below wb.heap.size wb wx)
      case first =>
        go_region_held3 (fun w' => w'.cell? ⟨pB, 0, none⟩ = some (.slice aN nN kN) ∧ w'.cell? ⟨pB, 1, none⟩ = some (.slice aV nV kV) ∧ w'.cell? ⟨pB, 2, none⟩ = some (.int .i64 0) ∧ w'.cell? ⟨w.heap.size + 1, 0, none⟩ = some (.int .i64 x.rows) ∧ w'.cell? ⟨w.heap.size + 1, 1, none⟩ = some (.int .i64 x.cols) ∧ w'.cell? ⟨w.heap.size + 1, 2, none⟩ = some (.slice a2 n2 k2) ∧ w'.cell? ⟨bG, n * 3, none⟩ = some (.int .i64 md.rows) ∧ w'.cell? ⟨bG, n * 3 + 1, none⟩ = some (.int .i64 md.cols) ∧ w'.cell? ⟨bG, n * 3 + 2, none⟩ = some (.slice a6 n6 k6) ∧ w'.cell? ⟨w.heap.size + 1 + 1, 0, none⟩ = some (.int .i64 ln) ∧ w'.cell? ⟨w.heap.size + 1 + 1, 1, none⟩ = some (.int .i64 kp)) (first | (have hb5x := hb5; exact cells_11 (show Box _ pB [.slice aN nN kN, .slice aV nV kV, .int .i64 0] 48 from (by repeat (first | fail | (with_reducible exact B12) | (with_reducible refine Box.alloc ?_ _) | (with_reducible refine Box.drewN ?_ _) | (with_reducible refine Box.drew ?_) | (with_reducible refine Box.set6z ?_ _ _ _ _ _ _) | (with_reducible refine Box.set3z ?_ _ _ _) | (with_reducible refine Box.far ?_ ?_ _; rotate_left 1; (first | (dsimp only; omega) | omega | (simp; omega) | simp)) | (with_reducible refine Box.keep ?_ hb5) | exact B12))) (show Box _ (w.heap.size + 1) [.int .i64 x.rows, .int .i64 x.cols, .slice a2 n2 k2] 25 from (by repeat (first | fail | (with_reducible exact B5) | (with_reducible refine Box.alloc ?_ _) | (with_reducible refine Box.drewN ?_ _) | (with_reducible refine Box.drew ?_) | (with_reducible refine Box.set6z ?_ _ _ _ _ _ _) | (with_reducible refine Box.set3z ?_ _ _ _) | (with_reducible refine Box.far ?_ ?_ _; rotate_left 1; (first | (dsimp only; omega) | omega | (simp; omega) | simp)) | (with_reducible refine Box.keep ?_ hb5) | exact B5))) (show Cells3 _ bG (n * 3) (.int .i64 md.rows) (.int .i64 md.cols) (.slice a6 n6 k6) from (by repeat (first | fail | (with_reducible exact hcm) | (with_reducible refine Cells3.alloc ?_ _) | (with_reducible refine Cells3.drewN ?_ _) | (with_reducible refine Cells3.drew ?_) | (with_reducible refine Cells3.far ?_ ?_ _; rotate_left 1; (first | (dsimp only; omega) | omega | (simp; omega) | simp)) | (with_reducible refine Cells3.keep ?_ hb5) | exact hcm))) (show Box _ (w.heap.size + 1 + 1) [.int .i64 ln, .int .i64 kp] 46 from (by repeat (first | fail | (with_reducible exact B7) | (with_reducible refine Box.alloc ?_ _) | (with_reducible refine Box.drewN ?_ _) | (with_reducible refine Box.drew ?_) | (with_reducible refine Box.set6z ?_ _ _ _ _ _ _) | (with_reducible refine Box.set3z ?_ _ _ _) | (with_reducible refine Box.far ?_ ?_ _; rotate_left 1; (first | (dsimp only; omega) | omega | (simp; omega) | simp)) | (with_reducible refine Box.keep ?_ hb5) | exact B7)))) | exact cells_11 (show Box _ pB [.slice aN nN kN, .slice aV nV kV, .int .i64 0] 48 from (by repeat (first | fail | (with_reducible exact B12) | (with_reducible refine Box.alloc ?_ _) | (with_reducible refine Box.drewN ?_ _) | (with_reducible refine Box.drew ?_) | (with_reducible refine Box.set6z ?_ _ _ _ _ _ _) | (with_reducible refine Box.set3z ?_ _ _ _) | (with_reducible refine Box.far ?_ ?_ _; rotate_left 1; (first | (dsimp only; omega) | omega | (simp; omega) | simp)) | exact B12))) (show Box _ (w.heap.size + 1) [.int .i64 x.rows, .int .i64 x.cols, .slice a2 n2 k2] 25 from (by repeat (first | fail | (with_reducible exact B5) | (with_reducible refine Box.alloc ?_ _) | (with_reducible refine Box.drewN ?_ _) | (with_reducible refine Box.drew ?_) | (with_reducible refine Box.set6z ?_ _ _ _ _ _ _) | (with_reducible refine Box.set3z ?_ _ _ _) | (with_reducible refine Box.far ?_ ?_ _; rotate_left 1; (first | (dsimp only; omega) | omega | (simp; omega) | simp)) | exact B5))) (show Cells3 _ bG (n * 3) (.int .i64 md.rows) (.int .i64 md.cols) (.slice a6 n6 k6) from (by repeat (first | fail | (with_reducible exact hcm) | (with_reducible refine Cells3.alloc ?_ _) | (with_reducible refine Cells3.drewN ?_ _) | (with_reducible refine Cells3.drew ?_) | (with_reducible refine Cells3.far ?_ ?_ _; rotate_left 1; (first | (dsimp only; omega) | omega | (simp; omega) | simp)) | exact hcm))) (show Box _ (w.heap.size + 1 + 1) [.int .i64 ln, .int .i64 kp] 46 from (by repeat (first | fail | (with_reducible exact B7) | (with_reducible refine Box.alloc ?_ _) | (with_reducible refine Box.drewN ?_ _) | (with_reducible refine Box.drew ?_) | (with_reducible refine Box.set6z ?_ _ _ _ _ _ _) | (with_reducible refine Box.set3z ?_ _ _ _) | (with_reducible refine Box.far ?_ ?_ _; rotate_left 1; (first | (dsimp only; omega) | omega | (simp; omega) | simp)) | exact B7))))
          ((go_at_call 14; go_must (refine (trainOne_any ⟨s.N, zeroNet s.N, 0⟩ ⟨x, md⟩ p ln kp _ _ _ _ _ _ _ _ _ _ _ _ _ _ (r0.keep (by repeat (first | fail | (with_reducible exact Below.refl _ _) | (with_reducible refine Below.al ?_ _) | (with_reducible refine Below.drN ?_ _) | (with_reducible refine Below.drew ?_) | (with_reducible refine Below.st ?_ ?_ _; rotate_left 1; (first | (dsimp only; omega) | omega | (simp; omega) | simp)) | exact Below.refl _ _))) (r1.keep (by repeat (first | fail | (with_reducible exact Below.refl _ _) | (with_reducible refine Below.al ?_ _) | (with_reducible refine Below.drN ?_ _) | (with_reducible refine Below.drew ?_) | (with_reducible refine Below.st ?_ ?_ _; rotate_left 1; (first | (dsimp only; omega) | omega | (simp; omega) | simp)) | exact Below.refl _ _))) ⟨a2, n2, k2, b2, o2, a6, n6, k6, b6, o6, rfl, q2.keep (by repeat (first | fail | (with_reducible exact Below.refl _ _) | (with_reducible refine Below.al ?_ _) | (with_reducible refine Below.drN ?_ _) | (with_reducible refine Below.drew ?_) | (with_reducible refine Below.st ?_ ?_ _; rotate_left 1; (first | (dsimp only; omega) | omega | (simp; omega) | simp)) | exact Below.refl _ _)), xg.keep (by repeat (first | fail | (with_reducible exact Below.refl _ _) | (with_reducible refine Below.al ?_ _) | (with_reducible refine Below.drN ?_ _) | (with_reducible refine Below.drew ?_) | (with_reducible refine Below.st ?_ ?_ _; rotate_left 1; (first | (dsimp only; omega) | omega | (simp; omega) | simp)) | exact Below.refl _ _))⟩).mono ?_); go_must (rintro e w5 ⟨vO, off, rfl, hb5, hO, hO'⟩); (try (have hb5a : Below (wb.drew.alloc (Obj.cells #[.slice none 0 0, .slice none 0 0, .int .i64 0] 48)).heap.size (wb.drew.alloc (Obj.cells #[.slice none 0 0, .slice none 0 0, .int .i64 0] 48)) w5 := hb5; have P13 : Box w5 wb.heap.size [.slice none 0 0, .slice none 0 0, .int .i64 0] 48 := Box.keep (Box.new' wb.drew wb.heap.size [.slice none 0 0, .slice none 0 0, .int .i64 0] 48 rfl) hb5a; have P13c := P13.cell; have P13f := P13.thawed; have P13z := P13.lt)); (rw [HEF.out]); (obtain ⟨rfl, aM, nM, kM, bM, aU, nU, kU, bU, rfl, rO, _⟩ := hO HF.out); (rw [show (oneOf ⟨s.N, zeroNet s.N, 0⟩ ⟨x, md⟩ p ln kp).N = s.N from by rw [← HMD.out]; exact HRS.out.2] at rO); (rw [show oneOff ⟨s.N, zeroNet s.N, 0⟩ ⟨x, md⟩ p = 0 from by rw [← HMD.out]; exact HRS.out.1, show (oneOf ⟨s.N, zeroNet s.N, 0⟩ ⟨x, md⟩ p ln kp).steps = 1 from rfl])))
        all_goals (
          have hz5 : wb.heap.size ≤ w5.heap.size := ((by repeat (first | fail | (with_reducible exact Below.refl _ _) | (with_reducible refine Below.al ?_ _) | (with_reducible refine Below.drN ?_ _) | (with_reducible refine Below.drew ?_) | (with_reducible refine Below.st ?_ ?_ _; rotate_left 1; (first | (dsimp only; omega) | omega | (simp; omega) | simp)) | (with_reducible refine Below.go ?_ hb5) | exact Below.refl _ _)) : Below wb.heap.size wb w5).size
          go_wp2_with fail
          go_meet
          first
          | exact ⟨wb.heap.size, nM, kM, bM, aM, _, rfl, rfl, rfl, ((P13.set 0 _).set 1 _).set 2 _, (rO.farS ((((Far.refl (fun c => c = wb.heap.size) w5).st (fun _ => rfl) _).st (fun _ => rfl) _).st (fun _ => rfl) _) (fun c hc _ hh => by unfold newB at hc; have h4 : c = wb.heap.size := hh; simp at hc; omega)).wide (fun _ _ _ => trivial), ((((by repeat (first | fail | (with_reducible exact Below.refl _ _) | (with_reducible refine Below.al ?_ _) | (with_reducible refine Below.drN ?_ _) | (with_reducible refine Below.drew ?_) | (with_reducible refine Below.st ?_ ?_ _; rotate_left 1; (first | (dsimp only; omega) | omega | (simp; omega) | simp)) | (with_reducible refine Below.go ?_ hb5) | exact Below.refl _ _)) : Below wb.heap.size wb w5).setCell (Nat.le_refl _) _).setCell (Nat.le_refl _) _).setCell (Nat.le_refl _) _⟩
          | exact ⟨w5.heap.size, nM, kM, bM, aM, _, rfl, rfl, rfl, (by repeat (first | fail | (with_reducible refine (Box.new' _ _ _ _ ?_); (simp; done)) | (with_reducible refine Box.alloc ?_ _) | (with_reducible refine Box.drewN ?_ _) | (with_reducible refine Box.drew ?_) | (with_reducible refine Box.far ?_ ?_ _; rotate_left 1; (first | (dsimp only; omega) | omega | (simp; omega) | simp)))), (rO.alloc _).wide (fun _ _ _ => trivial), (by repeat (first | fail | (with_reducible exact Below.refl _ _) | (with_reducible refine Below.al ?_ _) | (with_reducible refine Below.drN ?_ _) | (with_reducible refine Below.drew ?_) | (with_reducible refine Below.st ?_ ?_ _; rotate_left 1; (first | (dsimp only; omega) | omega | (simp; omega) | simp)) | (with_reducible refine Below.go ?_ hb5) | exact Below.refl _ _))⟩)
      case rest =>
        obtain ⟨pU, nM, kM, bM, aM, u1, rfl, rfl, rfl, hU, rO, hbc⟩ := hcut
        have B4x := B4.keep hbc
        have q0x := q0.keep hbc
        have hbw5 : Below w.heap.size w wc := hbwb.trans (hbc.mono hbwb.size)
        have c40 := B4x.cell 0
        have z40 := B4x.lt
        have u0 := hU.cell 0
        have u2 := hU.cell 2
        clear r0 r1 B12 B5 B7 hcm xg q0 q2 B4 hbc
        go_wp2_with fail
        refine (layers_same s.N _ _ _ _ _ _ _ _ _ _ _ _ _ rO q0x).mono ?_
        rintro e w6 ⟨rfl, hb6⟩
        have hU6 := hU.keep hb6
        have u26 := hU6.cell 2
        have hbe : Below w.heap.size w w6 := (by repeat (first | fail | (with_reducible exact Below.refl _ _) | (with_reducible exact hbw5) | (with_reducible refine Below.al ?_ _) | (with_reducible refine Below.drN ?_ _) | (with_reducible refine Below.drew ?_) | (with_reducible refine Below.st ?_ ?_ _; rotate_left 1; (first | (dsimp only; omega) | omega | (simp; omega) | simp)) | (with_reducible refine Below.go ?_ hb6) | exact Below.refl _ _ | exact hbw5))
        clear rO q0x
        go_wp2
        go_ret
        exact ⟨rfl, hbe⟩
    · have HF := Lib.hid hf
      have HEF : Hid (errV (oneFault ⟨s.N, zeroNet s.N, 0⟩ ⟨x, md⟩ p ln kp) = .iface 56 (.int .i64 (oneFault ⟨s.N, zeroNet s.N, 0⟩ ⟨x, md⟩ p ln kp))) := Lib.hid (errV_err hf)
      clear hf
      go_cut [11] (fun er wx => er = .iface 56 (.int .i64 (oneFault ⟨s.N, zeroNet s.N, 0⟩ ⟨x, md⟩ p ln kp)) ∧ Below wb.heap.size wb wx)
      case first =>
        go_region_held3 (fun w' => w'.cell? ⟨pB, 0, none⟩ = some (.slice aN nN kN) ∧ w'.cell? ⟨pB, 1, none⟩ = some (.slice aV nV kV) ∧ w'.cell? ⟨pB, 2, none⟩ = some (.int .i64 0) ∧ w'.cell? ⟨w.heap.size + 1, 0, none⟩ = some (.int .i64 x.rows) ∧ w'.cell? ⟨w.heap.size + 1, 1, none⟩ = some (.int .i64 x.cols) ∧ w'.cell? ⟨w.heap.size + 1, 2, none⟩ = some (.slice a2 n2 k2) ∧ w'.cell? ⟨bG, n * 3, none⟩ = some (.int .i64 md.rows) ∧ w'.cell? ⟨bG, n * 3 + 1, none⟩ = some (.int .i64 md.cols) ∧ w'.cell? ⟨bG, n * 3 + 2, none⟩ = some (.slice a6 n6 k6) ∧ w'.cell? ⟨w.heap.size + 1 + 1, 0, none⟩ = some (.int .i64 ln) ∧ w'.cell? ⟨w.heap.size + 1 + 1, 1, none⟩ = some (.int .i64 kp)) (first | (have hb5x := hb5; exact cells_11 (show Box _ pB [.slice aN nN kN, .slice aV nV kV, .int .i64 0] 48 from (by repeat (first | fail | (with_reducible exact B12) | (with_reducible refine Box.alloc ?_ _) | (with_reducible refine Box.drewN ?_ _) | (with_reducible refine Box.drew ?_) | (with_reducible refine Box.set6z ?_ _ _ _ _ _ _) | (with_reducible refine Box.set3z ?_ _ _ _) | (with_reducible refine Box.far ?_ ?_ _; rotate_left 1; (first | (dsimp only; omega) | omega | (simp; omega) | simp)) | (with_reducible refine Box.keep ?_ hb5) | exact B12))) (show Box _ (w.heap.size + 1) [.int .i64 x.rows, .int .i64 x.cols, .slice a2 n2 k2] 25 from (by repeat (first | fail | (with_reducible exact B5) | (with_reducible refine Box.alloc ?_ _) | (with_reducible refine Box.drewN ?_ _) | (with_reducible refine Box.drew ?_) | (with_reducible refine Box.set6z ?_ _ _ _ _ _ _) | (with_reducible refine Box.set3z ?_ _ _ _) | (with_reducible refine Box.far ?_ ?_ _; rotate_left 1; (first | (dsimp only; omega) | omega | (simp; omega) | simp)) | (with_reducible refine Box.keep ?_ hb5) | exact B5))) (show Cells3 _ bG (n * 3) (.int .i64 md.rows) (.int .i64 md.cols) (.slice a6 n6 k6) from (by repeat (first | fail | (with_reducible exact hcm) | (with_reducible refine Cells3.alloc ?_ _) | (with_reducible refine Cells3.drewN ?_ _) | (with_reducible refine Cells3.drew ?_) | (with_reducible refine Cells3.far ?_ ?_ _; rotate_left 1; (first | (dsimp only; omega) | omega | (simp; omega) | simp)) | (with_reducible refine Cells3.keep ?_ hb5) | exact hcm))) (show Box _ (w.heap.size + 1 + 1) [.int .i64 ln, .int .i64 kp] 46 from (by repeat (first | fail | (with_reducible exact B7) | (with_reducible refine Box.alloc ?_ _) | (with_reducible refine Box.drewN ?_ _) | (with_reducible refine Box.drew ?_) | (with_reducible refine Box.set6z ?_ _ _ _ _ _ _) | (with_reducible refine Box.set3z ?_ _ _ _) | (with_reducible refine Box.far ?_ ?_ _; rotate_left 1; (first | (dsimp only; omega) | omega | (simp; omega) | simp)) | (with_reducible refine Box.keep ?_ hb5) | exact B7)))) | exact cells_11 (show Box _ pB [.slice aN nN kN, .slice aV nV kV, .int .i64 0] 48 from (by repeat (first | fail | (with_reducible exact B12) | (with_reducible refine Box.alloc ?_ _) | (with_reducible refine Box.drewN ?_ _) | (with_reducible refine Box.drew ?_) | (with_reducible refine Box.set6z ?_ _ _ _ _ _ _) | (with_reducible refine Box.set3z ?_ _ _ _) | (with_reducible refine Box.far ?_ ?_ _; rotate_left 1; (first | (dsimp only; omega) | omega | (simp; omega) | simp)) | exact B12))) (show Box _ (w.heap.size + 1) [.int .i64 x.rows, .int .i64 x.cols, .slice a2 n2 k2] 25 from (by repeat (first | fail | (with_reducible exact B5) | (with_reducible refine Box.alloc ?_ _) | (with_reducible refine Box.drewN ?_ _) | (with_reducible refine Box.drew ?_) | (with_reducible refine Box.set6z ?_ _ _ _ _ _ _) | (with_reducible refine Box.set3z ?_ _ _ _) | (with_reducible refine Box.far ?_ ?_ _; rotate_left 1; (first | (dsimp only; omega) | omega | (simp; omega) | simp)) | exact B5))) (show Cells3 _ bG (n * 3) (.int .i64 md.rows) (.int .i64 md.cols) (.slice a6 n6 k6) from (by repeat (first | fail | (with_reducible exact hcm) | (with_reducible refine Cells3.alloc ?_ _) | (with_reducible refine Cells3.drewN ?_ _) | (with_reducible refine Cells3.drew ?_) | (with_reducible refine Cells3.far ?_ ?_ _; rotate_left 1; (first | (dsimp only; omega) | omega | (simp; omega) | simp)) | exact hcm))) (show Box _ (w.heap.size + 1 + 1) [.int .i64 ln, .int .i64 kp] 46 from (by repeat (first | fail | (with_reducible exact B7) | (with_reducible refine Box.alloc ?_ _) | (with_reducible refine Box.drewN ?_ _) | (with_reducible refine Box.drew ?_) | (with_reducible refine Box.set6z ?_ _ _ _ _ _ _) | (with_reducible refine Box.set3z ?_ _ _ _) | (with_reducible refine Box.far ?_ ?_ _; rotate_left 1; (first | (dsimp only; omega) | omega | (simp; omega) | simp)) | exact B7))))
          ((go_at_call 14; go_must (refine (trainOne_any ⟨s.N, zeroNet s.N, 0⟩ ⟨x, md⟩ p ln kp _ _ _ _ _ _ _ _ _ _ _ _ _ _ (r0.keep (by repeat (first | fail | (with_reducible exact Below.refl _ _) | (with_reducible refine Below.al ?_ _) | (with_reducible refine Below.drN ?_ _) | (with_reducible refine Below.drew ?_) | (with_reducible refine Below.st ?_ ?_ _; rotate_left 1; (first | (dsimp only; omega) | omega | (simp; omega) | simp)) | exact Below.refl _ _))) (r1.keep (by repeat (first | fail | (with_reducible exact Below.refl _ _) | (with_reducible refine Below.al ?_ _) | (with_reducible refine Below.drN ?_ _) | (with_reducible refine Below.drew ?_) | (with_reducible refine Below.st ?_ ?_ _; rotate_left 1; (first | (dsimp only; omega) | omega | (simp; omega) | simp)) | exact Below.refl _ _))) ⟨a2, n2, k2, b2, o2, a6, n6, k6, b6, o6, rfl, q2.keep (by repeat (first | fail | (with_reducible exact Below.refl _ _) | (with_reducible refine Below.al ?_ _) | (with_reducible refine Below.drN ?_ _) | (with_reducible refine Below.drew ?_) | (with_reducible refine Below.st ?_ ?_ _; rotate_left 1; (first | (dsimp only; omega) | omega | (simp; omega) | simp)) | exact Below.refl _ _)), xg.keep (by repeat (first | fail | (with_reducible exact Below.refl _ _) | (with_reducible refine Below.al ?_ _) | (with_reducible refine Below.drN ?_ _) | (with_reducible refine Below.drew ?_) | (with_reducible refine Below.st ?_ ?_ _; rotate_left 1; (first | (dsimp only; omega) | omega | (simp; omega) | simp)) | exact Below.refl _ _))⟩).mono ?_); go_must (rintro e w5 ⟨vO, off, rfl, hb5, hO, hO'⟩); (try (have hb5a : Below (wb.drew.alloc (Obj.cells #[.slice none 0 0, .slice none 0 0, .int .i64 0] 48)).heap.size (wb.drew.alloc (Obj.cells #[.slice none 0 0, .slice none 0 0, .int .i64 0] 48)) w5 := hb5; have P13 : Box w5 wb.heap.size [.slice none 0 0, .slice none 0 0, .int .i64 0] 48 := Box.keep (Box.new' wb.drew wb.heap.size [.slice none 0 0, .slice none 0 0, .int .i64 0] 48 rfl) hb5a; have P13c := P13.cell; have P13f := P13.thawed; have P13z := P13.lt)); (rw [HEF.out]); (obtain ⟨rfl, rfl⟩ := hO' HF.out)))
        all_goals (
          go_wp2_with fail
          go_meet
          first
          | (have P13x := P13; exact ⟨rfl, ((((by repeat (first | fail | (with_reducible exact Below.refl _ _) | (with_reducible refine Below.al ?_ _) | (with_reducible refine Below.drN ?_ _) | (with_reducible refine Below.drew ?_) | (with_reducible refine Below.st ?_ ?_ _; rotate_left 1; (first | (dsimp only; omega) | omega | (simp; omega) | simp)) | (with_reducible refine Below.go ?_ hb5) | exact Below.refl _ _)) : Below wb.heap.size wb w5).setCell (Nat.le_refl _) _).setCell (Nat.le_refl _) _).setCell (Nat.le_refl _) _⟩)
          | exact ⟨rfl, (by repeat (first | fail | (with_reducible exact Below.refl _ _) | (with_reducible refine Below.al ?_ _) | (with_reducible refine Below.drN ?_ _) | (with_reducible refine Below.drew ?_) | (with_reducible refine Below.st ?_ ?_ _; rotate_left 1; (first | (dsimp only; omega) | omega | (simp; omega) | simp)) | (with_reducible refine Below.go ?_ hb5) | exact Below.refl _ _))⟩)
      case rest =>
        obtain ⟨rfl, hbc⟩ := hcut
        have hbw5 : Below w.heap.size w wc := hbwb.trans (hbc.mono hbwb.size)
        clear r0 r1 B12 B5 B7 hcm xg q0 q2 B4 hbc
        go_wp2
        go_ret
        exact ⟨rfl, (by repeat (first | fail | (with_reducible exact Below.refl _ _) | (with_reducible exact hbw5) | (with_reducible refine Below.al ?_ _) | (with_reducible refine Below.drN ?_ _) | (with_reducible refine Below.drew ?_) | (with_reducible refine Below.st ?_ ?_ _; rotate_left 1; (first | (dsimp only; omega) | omega | (simp; omega) | simp)) | exact Below.refl _ _ | exact hbw5))⟩
  · have HG := Lib.hid hg
    have HEG : Hid (errV (netGoFault s.N x) = .iface 56 (.int .i64 (netGoFault s.N x))) := Lib.hid (errV_err hg)
    clear hg
    go_wp2_with fail
    refine (netGo_any s.N anyB _ _ _ _ _ x _ _ q0 (MatAt.mk q2)).mono ?_
    rintro e w2 ⟨uG, rfl, hb2, _, huG⟩
    obtain rfl := huG HG.out
    rw [HEG.out]
    have hbe : Below w.heap.size w w2 := (by repeat (first | fail | (with_reducible exact Below.refl _ _) | (with_reducible exact hbw1) | (with_reducible refine Below.al ?_ _) | (with_reducible refine Below.drN ?_ _) | (with_reducible refine Below.drew ?_) | (with_reducible refine Below.st ?_ ?_ _; rotate_left 1; (first | (dsimp only; omega) | omega | (simp; omega) | simp)) | (with_reducible refine Below.go ?_ hb2) | exact Below.refl _ _ | exact hbw1))
    clear huG q0 q1 q2
    go_wp2
    go_ret
    exact ⟨rfl, hbe⟩

theorem own : ownKnob Try.prog.godebug = none := by kernel_rfl
theorem laidOut : laidOutB Try.prog = true := by kernel_rfl
set_option maxRecDepth 100000 in
theorem lifted (os : Os) (started : os.Started) (H : Type) (enc : TypeId × Value → H) :
    ReturnsInHanded {} Try.checked os 4 .any (Rows.trainRestsSpec.pre6 enc Try.prog Try.f4 Rows.trainRestsRow.domain false) (Rows.trainRestsSpec.post enc Try.prog Try.f4 false true false false) := by
  refine returnsInHanded_of_change (C := Try.checked) own started (by kernel_rfl) Try.func4
    (ChangeSpec.witness6 (enc := enc) (C := Try.checked) false ⟨#[], #[.agg #[.slice none 0 0, .slice none 0 0, .int .i64 0], .agg #[.int .i64 0, .int .i64 0, .slice none 0 0], .int .i64 0, .agg #[.int .i64 0, .int .i64 0]], []⟩ 8 (by kernel_rfl) (by kernel_rfl) (by kernel_rfl) (by kernel_rfl)) ?_
  intro W base args ds gs before hval0 hW hcnd hsz
  have hval : ∀ (j : Nat) t v, Try.f4.params[j]? = some t → args[j]? = some v → Value.okWide Try.prog W .any base t v := hval0
  have hW' := hW
  obtain ⟨p, q, hA0, hV, rfl, hfz, hnd⟩ := hW
  have hA : DataW.TrodAll enc Try.prog W 0 (fun _ => true) true Try.f4.params.toList args.toList ds p := hA0
  rw [Try.params4] at hA hval
  obtain ⟨v0, vs0, d0, ds0, p0, q0, hargs, rfl, rfl, h0, r0⟩ := trodAll_cons hA
  obtain ⟨v1, vs1, d1, ds1, p1, q1, rfl, rfl, rfl, h1, r1⟩ := trodAll_cons r0
  obtain ⟨v2, vs2, d2, ds2, p2, q2, rfl, rfl, rfl, h2, r2⟩ := trodAll_cons r1
  obtain ⟨v3, vs3, d3, ds3, p3, q3, rfl, rfl, rfl, h3, r3⟩ := trodAll_cons r2
  obtain ⟨rfl, rfl, rfl⟩ := trodAll_nil r3
  obtain rfl : args = #[v0, v1, v2, v3] := by cases args; simp_all
  obtain ⟨rfl, rfl⟩ := trodVars_none hV
  have k0 := h0
  have lt0 : ∀ x ∈ p0, x.block < W.heap.size := by obtain ⟨m, hm⟩ := k0; exact DataW.trod_lt m _ _ _ hm
  have k1 := h1
  have lt1 : ∀ x ∈ p1, x.block < W.heap.size := by obtain ⟨m, hm⟩ := k1; exact DataW.trod_lt m _ _ _ hm
  have k2 := h2
  have lt2 : ∀ x ∈ p2, x.block < W.heap.size := by obtain ⟨m, hm⟩ := k2; exact DataW.trod_lt m _ _ _ hm
  have k3 := h3
  have lt3 : ∀ x ∈ p3, x.block < W.heap.size := by obtain ⟨m, hm⟩ := k3; exact DataW.trod_lt m _ _ _ hm
  obtain ⟨a0, w0⟩ := open_galley_galleyref1_State (hval 0 44 v0 rfl rfl) h0
  obtain ⟨a1, w1⟩ := open_mat (hval 1 25 v1 rfl rfl) h1
  obtain ⟨a2, rfl, rfl, rfl, w2⟩ := open_int Try.underlying3 (hval 2 3 v2 rfl rfl) h2
  obtain ⟨a3, w3⟩ := open_Rates (hval 3 46 v3 rfl rfl) h3
  clear hA0 hval0
  refine (walk a0 v0 a1 v1 a2 a3 v3 W w0 w1 w2 w3).mono fun e W' ⟨he, bel⟩ => ?_
  subst he
  exact ⟨_, rfl, _, _, _, [], _, [], hW', trodAll_mk1 (shut_bool Try.underlying4 _), (trodAll_cons_mk (Below.trod laidOut (by kernel_rfl) (of_decide_eq_true (by kernel_rfl)) k0 bel lt0) (trodAll_cons_mk (Below.trod laidOut (by kernel_rfl) (of_decide_eq_true (by kernel_rfl)) k1 bel lt1) (trodAll_cons_mk (Below.trod laidOut (by kernel_rfl) (of_decide_eq_true (by kernel_rfl)) k2 bel lt2) (trodAll_cons_mk (Below.trod laidOut (by kernel_rfl) (of_decide_eq_true (by kernel_rfl)) k3 bel lt3) trodAll_mk0)))), rfl, bel.frame _, fun h => by cases h⟩

theorem proved : Rows.TrainRestsSaid :=
  OpenClaim.holds_of_wide 4 Try.f4 rfl rfl rfl rfl rfl rfl rfl ⟨rfl, rfl, rfl, rfl, rfl⟩ rfl rfl rfl rfl rfl (by kernel_rfl) Try.func4 (by kernel_rfl)
    (of_decide_eq_true (by kernel_rfl)) (by unfold Func.isWrapper; first | (rw [if_pos (by decide +kernel)]; kernel_rfl) | (rw [if_neg (by decide +kernel)]; exact ⟨rfl, rfl⟩))
    (fun os started H enc _ => lifted os started H enc)
#print axioms proved

end Go.Proofs.Ytgknjikjjklaiaa.lawTrainRests
