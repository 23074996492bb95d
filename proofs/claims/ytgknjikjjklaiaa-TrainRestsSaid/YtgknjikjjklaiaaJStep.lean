/- Some small texts, joined: Step1, Step2. -/
import Derived.Test.YtgknjikjjklaiaaJPlain
import Derived.Test.YtgknjikjjklaiaaJMat
import Derived.Test.YtgknjikjjklaiaaForms
import Derived.Test.YtgknjikjjklaiaaBaseR
import Derived.Test.YtgknjikjjklaiaaBaseP
import Derived.Deep.DeepCutAuto
import Derived.BigQuiet
import Derived.BigRegion
import Derived.Test.YtgknjikjjklaiaaLay2
import Derived.Deep.WholeRow
import Derived.Deep.MidRow
section
set_option linter.unusedVariables false
set_option linter.unusedSimpArgs false
set_option linter.unusedSectionVars false
namespace Go.Proofs.Ytgknjikjjklaiaa
open Go.RowKit Gal
set_option maxRecDepth 100000
set_option maxHeartbeats 2000000
theorem ints_pad' {w : World} {b n : Nat} {g : Nat → Int} {t : TypeId} (h : Box w b ((pad g n n).map (Value.int .i64)) t) (hl : n ≤ maxLen) : IntsAt w (some ⟨b, 0, none⟩) n n b 0 (upto g n) := by
  rw [pad_full] at h
  refine ⟨upto_length _ _, Nat.le_refl _, hl, fun _ => rfl, fun _ => h.lt, fun i hi => ?_⟩
  rw [Nat.zero_add, h.cell, List.getElem?_map]
  unfold ix
  rw [List.getElem?_eq_getElem (by rw [upto_length]; exact hi)]
  rfl
theorem turned_any (mw mv md : Mat) (ln kp : Int) (a0 a1 a2 : Option Addr) (n k0 k1 k2 b0 b1 b2 o0 o1 o2 : Nat) (w : World) (hn : n ≤ 288) (x0 : IntsAt w a0 n k0 b0 o0 mw.cells) (x1 : IntsAt w a1 n k1 b1 o1 mv.cells) (x2 : IntsAt w a2 n k2 b2 o2 md.cells) :
    Calls Try.prog 56 #[.agg #[.int .i64 mw.rows, .int .i64 mw.cols, .slice a0 n k0], .agg #[.int .i64 mv.rows, .int .i64 mv.cols, .slice a1 n k1], .agg #[.int .i64 md.rows, .int .i64 md.cols, .slice a2 n k2], .agg #[.int .i64 ln, .int .i64 kp]] w fun e w' =>
      ∃ x y, e = .returned (.tuple #[x, y]) ∧ MatNew w.heap.size w' x (stepTo mw mv md ln kp) ∧ MatNew w.heap.size w' y (stepSpeed mw mv md kp) ∧ Below w.heap.size w w' := by
  obtain ⟨i0, hi, hz0, hz1, hz2⟩ := info_parts info_int
  have hmk := fun W => run_make_rowN (P := Try.prog) 23 3 i0 _ Try.underlying23 hi hz0 .i64 .i64 n n (n : Int) (n : Int) rfl rfl (Nat.le_refl _) (by rw [hz2]; omega) (by omega) W
  rw [hz1, Nat.mul_one] at hmk
  have hmc : (madeCells (Value.int .i64 0).cells n) = ((zeros n).map (Value.int .i64)).toArray := by
    apply Array.toList_inj.1
    show (madeCells #[Value.int .i64 0] n).toList = _
    rw [toList_madeCells_one]
    simp [zeros]
  rw [hmc] at hmk
  clear hmc
  have HL := Lib.hid x0.len
  have l0 := x0.lt
  have l1 := x1.lt
  have l2 := x2.lt
  go_enter Try.func56, Try.ntmps56
  go_wp2_with fail
  obtain ⟨w0, hw0, B0, B1, B2, B3, B4, B5, y0, y1, y2, hb0⟩ : ∃ w0, ((((((w.alloc (.cells #[.int .i64 mw.rows, .int .i64 mw.cols, .slice a0 n k0] 25)).alloc (.cells #[.int .i64 mv.rows, .int .i64 mv.cols, .slice a1 n k1] 25)).alloc (.cells #[.int .i64 md.rows, .int .i64 md.cols, .slice a2 n k2] 25)).alloc (.cells #[.int .i64 ln, .int .i64 kp] 46)).alloc (.cells #[.int .i64 0, .int .i64 0, .slice none 0 0] 25)).alloc (.cells #[.int .i64 0, .int .i64 0, .slice none 0 0] 25)) = w0 ∧
      Box w0 w.heap.size [.int .i64 mw.rows, .int .i64 mw.cols, .slice a0 n k0] 25 ∧ Box w0 (w.heap.size + 1) [.int .i64 mv.rows, .int .i64 mv.cols, .slice a1 n k1] 25 ∧ Box w0 (w.heap.size + 1 + 1) [.int .i64 md.rows, .int .i64 md.cols, .slice a2 n k2] 25 ∧
      Box w0 (w.heap.size + 1 + 1 + 1) [.int .i64 ln, .int .i64 kp] 46 ∧ Box w0 (w.heap.size + 1 + 1 + 1 + 1) [.int .i64 0, .int .i64 0, .slice none 0 0] 25 ∧ Box w0 (w.heap.size + 1 + 1 + 1 + 1 + 1) [.int .i64 0, .int .i64 0, .slice none 0 0] 25 ∧
      IntsAt w0 a0 n k0 b0 o0 mw.cells ∧ IntsAt w0 a1 n k1 b1 o1 mv.cells ∧ IntsAt w0 a2 n k2 b2 o2 md.cells ∧ Below w.heap.size w w0 :=
    ⟨_, rfl, (by repeat (first | fail | (with_reducible refine (Box.new' _ w.heap.size _ _ ?_); (simp; done)) | (with_reducible refine Box.alloc ?_ _) | (with_reducible refine Box.drewN ?_ _) | (with_reducible refine Box.drew ?_) | (with_reducible refine Box.far ?_ ?_ _; rotate_left 1; (first | (dsimp only; omega) | omega | (simp; omega) | simp)))), (by repeat (first | fail | (with_reducible refine (Box.new' _ (w.heap.size + 1) _ _ ?_); (simp; done)) | (with_reducible refine Box.alloc ?_ _) | (with_reducible refine Box.drewN ?_ _) | (with_reducible refine Box.drew ?_) | (with_reducible refine Box.far ?_ ?_ _; rotate_left 1; (first | (dsimp only; omega) | omega | (simp; omega) | simp)))), (by repeat (first | fail | (with_reducible refine (Box.new' _ (w.heap.size + 1 + 1) _ _ ?_); (simp; done)) | (with_reducible refine Box.alloc ?_ _) | (with_reducible refine Box.drewN ?_ _) | (with_reducible refine Box.drew ?_) | (with_reducible refine Box.far ?_ ?_ _; rotate_left 1; (first | (dsimp only; omega) | omega | (simp; omega) | simp)))), (by repeat (first | fail | (with_reducible refine (Box.new' _ (w.heap.size + 1 + 1 + 1) _ _ ?_); (simp; done)) | (with_reducible refine Box.alloc ?_ _) | (with_reducible refine Box.drewN ?_ _) | (with_reducible refine Box.drew ?_) | (with_reducible refine Box.far ?_ ?_ _; rotate_left 1; (first | (dsimp only; omega) | omega | (simp; omega) | simp)))), (by repeat (first | fail | (with_reducible refine (Box.new' _ (w.heap.size + 1 + 1 + 1 + 1) _ _ ?_); (simp; done)) | (with_reducible refine Box.alloc ?_ _) | (with_reducible refine Box.drewN ?_ _) | (with_reducible refine Box.drew ?_) | (with_reducible refine Box.far ?_ ?_ _; rotate_left 1; (first | (dsimp only; omega) | omega | (simp; omega) | simp)))), (by repeat (first | fail | (with_reducible refine (Box.new' _ (w.heap.size + 1 + 1 + 1 + 1 + 1) _ _ ?_); (simp; done)) | (with_reducible refine Box.alloc ?_ _) | (with_reducible refine Box.drewN ?_ _) | (with_reducible refine Box.drew ?_) | (with_reducible refine Box.far ?_ ?_ _; rotate_left 1; (first | (dsimp only; omega) | omega | (simp; omega) | simp)))), (by repeat (first | fail | (with_reducible exact x0) | (with_reducible refine IntsAt.alloc ?_ _) | (with_reducible refine IntsAt.drewN ?_ _) | (with_reducible refine IntsAt.drew ?_) | (with_reducible refine IntsAt.set ?_ ?_ _; rotate_left 1; (intro h0; first | (dsimp only; omega) | omega | (simp; omega) | simp)) | exact x0)), (by repeat (first | fail | (with_reducible exact x1) | (with_reducible refine IntsAt.alloc ?_ _) | (with_reducible refine IntsAt.drewN ?_ _) | (with_reducible refine IntsAt.drew ?_) | (with_reducible refine IntsAt.set ?_ ?_ _; rotate_left 1; (intro h0; first | (dsimp only; omega) | omega | (simp; omega) | simp)) | exact x1)), (by repeat (first | fail | (with_reducible exact x2) | (with_reducible refine IntsAt.alloc ?_ _) | (with_reducible refine IntsAt.drewN ?_ _) | (with_reducible refine IntsAt.drew ?_) | (with_reducible refine IntsAt.set ?_ ?_ _; rotate_left 1; (intro h0; first | (dsimp only; omega) | omega | (simp; omega) | simp)) | exact x2)), (by repeat (first | fail | (with_reducible exact Below.refl _ _) | (with_reducible refine Below.al ?_ _) | (with_reducible refine Below.drN ?_ _) | (with_reducible refine Below.drew ?_) | (with_reducible refine Below.st ?_ ?_ _; rotate_left 1; (first | (dsimp only; omega) | omega | (simp; omega) | simp)) | exact Below.refl _ _))⟩
  rw [hw0]
  clear hw0 x0 x1 x2
  have hz0' : w.heap.size + 1 + 1 + 1 + 1 + 1 < w0.heap.size := B5.lt
  have B0 := B0
  have B0c := B0.cell
  have B0f := B0.thawed
  have B0z := B0.lt
  have B0k := lt_add B0z
  have B1 := B1
  have B1c := B1.cell
  have B1f := B1.thawed
  have B1z := B1.lt
  have B1k := lt_add B1z
  have B2 := B2
  have B2c := B2.cell
  have B2f := B2.thawed
  have B2z := B2.lt
  have B2k := lt_add B2z
  have B3 := B3
  have B3c := B3.cell
  have B3f := B3.thawed
  have B3z := B3.lt
  have B3k := lt_add B3z
  have B4 := B4
  have B4c := B4.cell
  have B4f := B4.thawed
  have B4z := B4.lt
  have B4k := lt_add B4z
  have B5 := B5
  have B5c := B5.cell
  have B5f := B5.thawed
  have B5z := B5.lt
  have B5k := lt_add B5z
  go_cut [10] (fun s wx => ∃ p q, s = .pointer (some ⟨p, 0, none⟩) ∧ p ≠ q ∧ w0.heap.size ≤ p ∧ w0.heap.size ≤ q ∧ Box wx p [.int .i64 mw.rows, .int .i64 mw.cols, .slice (some ⟨q, 0, none⟩) n n] 25 ∧ Box wx q ((zeros n).map (Value.int .i64)) 3 ∧ Below w0.heap.size w0 wx)
  case first =>
    go_region
    all_goals (
      go_wp2_with fail
      go_meet
      first
      | exact ⟨_, _, rfl, by omega, by omega, by omega, Box.new' _ _ _ _ (by simp), (Box.new' _ _ _ _ (by simp)).alloc _, (by repeat (first | fail | (with_reducible exact Below.refl _ _) | (with_reducible refine Below.al ?_ _) | (with_reducible refine Below.drN ?_ _) | (with_reducible refine Below.drew ?_) | (with_reducible refine Below.st ?_ ?_ _; rotate_left 1; (first | (dsimp only; omega) | omega | (simp; omega) | simp)) | exact Below.refl _ _))⟩
      | exact ⟨_, _, rfl, by omega, by omega, by omega, (Box.new' _ _ _ _ (by simp)).alloc _, Box.new' _ _ _ _ (by simp), (by repeat (first | fail | (with_reducible exact Below.refl _ _) | (with_reducible refine Below.al ?_ _) | (with_reducible refine Below.drN ?_ _) | (with_reducible refine Below.drew ?_) | (with_reducible refine Below.st ?_ ?_ _; rotate_left 1; (first | (dsimp only; omega) | omega | (simp; omega) | simp)) | exact Below.refl _ _))⟩)
  case rest =>
    obtain ⟨p1, q1, rfl, hn1, hp1, hq1, P1, Q1, hbA⟩ := hcut
    have hkwc : Below w0.heap.size w0 wc := (by repeat (first | fail | (with_reducible exact Below.refl _ _) | (with_reducible refine Below.al ?_ _) | (with_reducible refine Below.drN ?_ _) | (with_reducible refine Below.drew ?_) | (with_reducible refine Below.st ?_ ?_ _; rotate_left 1; (first | (dsimp only; omega) | omega | (simp; omega) | simp)) | (with_reducible refine Below.go ?_ hbA) | exact Below.refl _ _))
    replace B0 := B0.keep hkwc
    replace B0c := B0.cell
    replace B0f := B0.thawed
    replace B0z := B0.lt
    replace B0k := lt_add B0z
    replace B1 := B1.keep hkwc
    replace B1c := B1.cell
    replace B1f := B1.thawed
    replace B1z := B1.lt
    replace B1k := lt_add B1z
    replace B2 := B2.keep hkwc
    replace B2c := B2.cell
    replace B2f := B2.thawed
    replace B2z := B2.lt
    replace B2k := lt_add B2z
    replace B3 := B3.keep hkwc
    replace B3c := B3.cell
    replace B3f := B3.thawed
    replace B3z := B3.lt
    replace B3k := lt_add B3z
    replace B4 := B4.keep hkwc
    replace B4c := B4.cell
    replace B4f := B4.thawed
    replace B4z := B4.lt
    replace B4k := lt_add B4z
    replace B5 := B5.keep hkwc
    replace B5c := B5.cell
    replace B5f := B5.thawed
    replace B5z := B5.lt
    replace B5k := lt_add B5z
    replace y0 := y0.keep hkwc
    replace y1 := y1.keep hkwc
    replace y2 := y2.keep hkwc
    have P1 := P1
    have P1c := P1.cell
    have P1f := P1.thawed
    have P1z := P1.lt
    have P1k := lt_add P1z
    have Q1 := Q1
    have Q1c := Q1.cell
    have Q1f := Q1.thawed
    have Q1z := Q1.lt
    have Q1k := lt_add Q1z
    obtain ⟨wA, hwA⟩ : ∃ wA, wA = wc := ⟨_, rfl⟩
    rw [← hwA] at B0 B0c B0f B0z B0k B1 B1c B1f B1z B1k B2 B2c B2f B2z B2k B3 B3c B3f B3z B3k B4 B4c B4f B4z B4k B5 B5c B5f B5z B5k y0 y1 y2 P1 P1c P1f P1z P1k Q1 Q1c Q1f Q1z Q1k hbA ⊢
    have P1z' := P1z
    have Q1z' := Q1z
    clear hwA hkwc
    go_wp2_with fail
    go_cut [11] (fun s wx => ∃ p q, s = .pointer (some ⟨p, 0, none⟩) ∧ p ≠ q ∧ wA.heap.size ≤ p ∧ wA.heap.size ≤ q ∧ Box wx p [.int .i64 mw.rows, .int .i64 mw.cols, .slice (some ⟨q, 0, none⟩) n n] 25 ∧ Box wx q ((zeros n).map (Value.int .i64)) 3 ∧ Below wA.heap.size wA wx)
    case first =>
      go_region
      all_goals (
        go_wp2_with fail
        go_meet
        first
        | exact ⟨_, _, rfl, by omega, by omega, by omega, Box.new' _ _ _ _ (by simp), (Box.new' _ _ _ _ (by simp)).alloc _, (by repeat (first | fail | (with_reducible exact Below.refl _ _) | (with_reducible refine Below.al ?_ _) | (with_reducible refine Below.drN ?_ _) | (with_reducible refine Below.drew ?_) | (with_reducible refine Below.st ?_ ?_ _; rotate_left 1; (first | (dsimp only; omega) | omega | (simp; omega) | simp)) | exact Below.refl _ _))⟩
        | exact ⟨_, _, rfl, by omega, by omega, by omega, (Box.new' _ _ _ _ (by simp)).alloc _, Box.new' _ _ _ _ (by simp), (by repeat (first | fail | (with_reducible exact Below.refl _ _) | (with_reducible refine Below.al ?_ _) | (with_reducible refine Below.drN ?_ _) | (with_reducible refine Below.drew ?_) | (with_reducible refine Below.st ?_ ?_ _; rotate_left 1; (first | (dsimp only; omega) | omega | (simp; omega) | simp)) | exact Below.refl _ _))⟩)
    case rest =>
      obtain ⟨p2, q2, rfl, hn2, hp2, hq2, P2, Q2, hbB⟩ := hcut
      have hkwc : Below wA.heap.size wA wc := (by repeat (first | fail | (with_reducible exact Below.refl _ _) | (with_reducible refine Below.al ?_ _) | (with_reducible refine Below.drN ?_ _) | (with_reducible refine Below.drew ?_) | (with_reducible refine Below.st ?_ ?_ _; rotate_left 1; (first | (dsimp only; omega) | omega | (simp; omega) | simp)) | (with_reducible refine Below.go ?_ hbB) | exact Below.refl _ _))
      replace B0 := B0.keep hkwc
      replace B0c := B0.cell
      replace B0f := B0.thawed
      replace B0z := B0.lt
      replace B0k := lt_add B0z
      replace B1 := B1.keep hkwc
      replace B1c := B1.cell
      replace B1f := B1.thawed
      replace B1z := B1.lt
      replace B1k := lt_add B1z
      replace B2 := B2.keep hkwc
      replace B2c := B2.cell
      replace B2f := B2.thawed
      replace B2z := B2.lt
      replace B2k := lt_add B2z
      replace B3 := B3.keep hkwc
      replace B3c := B3.cell
      replace B3f := B3.thawed
      replace B3z := B3.lt
      replace B3k := lt_add B3z
      replace B4 := B4.keep hkwc
      replace B4c := B4.cell
      replace B4f := B4.thawed
      replace B4z := B4.lt
      replace B4k := lt_add B4z
      replace B5 := B5.keep hkwc
      replace B5c := B5.cell
      replace B5f := B5.thawed
      replace B5z := B5.lt
      replace B5k := lt_add B5z
      replace P1 := P1.keep hkwc
      replace P1c := P1.cell
      replace P1f := P1.thawed
      replace P1z := P1.lt
      replace P1k := lt_add P1z
      replace Q1 := Q1.keep hkwc
      replace Q1c := Q1.cell
      replace Q1f := Q1.thawed
      replace Q1z := Q1.lt
      replace Q1k := lt_add Q1z
      replace y0 := y0.keep hkwc
      replace y1 := y1.keep hkwc
      replace y2 := y2.keep hkwc
      have P2 := P2
      have P2c := P2.cell
      have P2f := P2.thawed
      have P2z := P2.lt
      have P2k := lt_add P2z
      have Q2 := Q2
      have Q2c := Q2.cell
      have Q2f := Q2.thawed
      have Q2z := Q2.lt
      have Q2k := lt_add Q2z
      have hbw : Below w.heap.size w wc := (by repeat (first | fail | (with_reducible exact Below.refl _ _) | (with_reducible exact hb0) | (with_reducible refine Below.al ?_ _) | (with_reducible refine Below.drN ?_ _) | (with_reducible refine Below.drew ?_) | (with_reducible refine Below.st ?_ ?_ _; rotate_left 1; (first | (dsimp only; omega) | omega | (simp; omega) | simp)) | (with_reducible refine Below.go ?_ hbB) | (with_reducible refine Below.go ?_ hbA) | exact Below.refl _ _ | exact hb0))
      have hz0 : w.heap.size + 1 + 1 + 1 + 1 + 1 < w0.heap.size := hz0'
      have hzA : w0.heap.size ≤ wA.heap.size := hbA.size
      obtain ⟨g, hg⟩ : ∃ g : Nat → Int, g = fun k => add (mul (ix mv.cells k) kp) (ix md.cells k) := ⟨_, rfl⟩
      obtain ⟨f, hf⟩ : ∃ f : Nat → Int, f = fun k => sub (ix mw.cells k) (mul (g k) ln) := ⟨_, rfl⟩
      have HG : Hid (∀ k, g k = add (mul (ix mv.cells k) kp) (ix md.cells k)) := Lib.hid fun k => by rw [hg]
      have HF : Hid (∀ k, f k = sub (ix mw.cells k) (mul (g k) ln)) := Lib.hid fun k => by rw [hf]
      have HS1 : Hid (stepTo mw mv md ln kp = ⟨mw.rows, mw.cols, upto f n⟩) := Lib.hid (by unfold stepTo; rw [HL.out, hf, hg])
      have HS2 : Hid (stepSpeed mw mv md kp = ⟨mw.rows, mw.cols, upto g n⟩) := Lib.hid (by unfold stepSpeed; rw [HL.out, hg])
      clear hf hg hmk
      have hn12 : q1 ≠ q2 := by omega
      go_wp2_with fail
      go_loopw [34, 12] (fun i _ wr => ∃ k : Nat, k ≤ n ∧ i = .int .i64 k ∧ Far (fun b => b = q1 ∨ b = q2) wc wr ∧ Box wr q1 ((pad f n k).map (Value.int .i64)) 3 ∧ Box wr q2 ((pad g n k).map (Value.int .i64)) 3) (fun i _ _ => n - (intOf i).toNat)
      case atStart => exact ⟨0, Nat.zero_le _, rfl, Far.refl _ _, by rw [pad_zero]; exact Q1, by rw [pad_zero]; exact Q2⟩
      case round =>
        obtain ⟨k, hk, rfl, hfr, R1, R2⟩ := hrel
        clear Q1 Q1c Q1f Q1z Q1k Q2 Q2c Q2f Q2z Q2k
        replace B0 := B0.farS hfr (by omega)
        have B0c := B0.cell
        have B0f := B0.thawed
        have B0z := B0.lt
        have B0k := lt_add B0z
        replace B1 := B1.farS hfr (by omega)
        have B1c := B1.cell
        have B1f := B1.thawed
        have B1z := B1.lt
        have B1k := lt_add B1z
        replace B2 := B2.farS hfr (by omega)
        have B2c := B2.cell
        have B2f := B2.thawed
        have B2z := B2.lt
        have B2k := lt_add B2z
        replace B3 := B3.farS hfr (by omega)
        have B3c := B3.cell
        have B3f := B3.thawed
        have B3z := B3.lt
        have B3k := lt_add B3z
        replace B4 := B4.farS hfr (by omega)
        have B4c := B4.cell
        have B4f := B4.thawed
        have B4z := B4.lt
        have B4k := lt_add B4z
        replace B5 := B5.farS hfr (by omega)
        have B5c := B5.cell
        have B5f := B5.thawed
        have B5z := B5.lt
        have B5k := lt_add B5z
        replace P1 := P1.farS hfr (by omega)
        have P1c := P1.cell
        have P1f := P1.thawed
        have P1z := P1.lt
        have P1k := lt_add P1z
        replace P2 := P2.farS hfr (by omega)
        have P2c := P2.cell
        have P2f := P2.thawed
        have P2z := P2.lt
        have P2k := lt_add P2z
        replace y0 := y0.farS hfr (by intro hn e; have := l0 hn; omega)
        replace y1 := y1.farS hfr (by intro hn e; have := l1 hn; omega)
        replace y2 := y2.farS hfr (by intro hn e; have := l2 hn; omega)
        by_cases hlt : k < n
        · obtain rfl := y0.ptr (by omega)
          obtain rfl := y1.ptr (by omega)
          obtain rfl := y2.ptr (by omega)
          have c0 := y0.cell k hlt
          have c1 := y1.cell k hlt
          have c2 := y2.cell k hlt
          have cc := R2.icell (k := k) (by rw [pad_length]; exact hlt)
          rw [pad_ix hlt, if_neg (Nat.lt_irrefl _)] at cc
          have cf := R2.thawed k
          have hltI : (k : Int) < (n : Int) := by omega
          have hi3 : (0 : Int) ≤ (k : Int) := by omega
          go_wp2_with fail
          refine wp_region_still_tail 17 (by kernel_rfl) (by kernel_rfl) ?_
          simp only [List.take_succ_cons, List.take_zero, List.drop_succ_cons, List.drop_zero]
          repeat (first | still_call (still0 (mul_any _ _ _)) | still_call (still0 (add_any _ _ _)) | still_step)
          refine wpStill_nil ?_
          go_wp2_with fail
          obtain ⟨wq, hwq, hfq, hrq, S1, S2⟩ : ∃ wq, (wr.setCell ⟨q2, k, none⟩ (Value.int .i64 (add (mul (ix mv.cells k) kp) (ix md.cells k)))).drew = wq ∧ Far (fun b => b = q1 ∨ b = q2) wc wq ∧ Far (fun b => b = q1 ∨ b = q2) wr wq ∧
              Box wq q1 ((pad f n k).map (Value.int .i64)) 3 ∧ Box wq q2 ((pad g n (k + 1)).map (Value.int .i64)) 3 := by
            refine ⟨_, rfl, (hfr.st (fun _ => Or.inr rfl) _).drew, ((Far.refl _ _).st (fun _ => Or.inr rfl) _).drew, (R1.far hn12 _).drew, ?_⟩
            rw [← HG.out k, ← pad_set hlt]
            exact (R2.iset k _).drew
          rw [hwq]
          clear hwq hfr R1 R2 cc cf c1 c2
          replace B0 := B0.farS hrq (by omega)
          have B0c := B0.cell
          have B0f := B0.thawed
          have B0z := B0.lt
          have B0k := lt_add B0z
          replace B1 := B1.farS hrq (by omega)
          have B1c := B1.cell
          have B1f := B1.thawed
          have B1z := B1.lt
          have B1k := lt_add B1z
          replace B2 := B2.farS hrq (by omega)
          have B2c := B2.cell
          have B2f := B2.thawed
          have B2z := B2.lt
          have B2k := lt_add B2z
          replace B3 := B3.farS hrq (by omega)
          have B3c := B3.cell
          have B3f := B3.thawed
          have B3z := B3.lt
          have B3k := lt_add B3z
          replace B4 := B4.farS hrq (by omega)
          have B4c := B4.cell
          have B4f := B4.thawed
          have B4z := B4.lt
          have B4k := lt_add B4z
          replace B5 := B5.farS hrq (by omega)
          have B5c := B5.cell
          have B5f := B5.thawed
          have B5z := B5.lt
          have B5k := lt_add B5z
          replace P1 := P1.farS hrq (by omega)
          have P1c := P1.cell
          have P1f := P1.thawed
          have P1z := P1.lt
          have P1k := lt_add P1z
          replace P2 := P2.farS hrq (by omega)
          have P2c := P2.cell
          have P2f := P2.thawed
          have P2z := P2.lt
          have P2k := lt_add P2z
          replace y0 := y0.farS hrq (by intro hn e; have := l0 hn; omega)
          clear c0
          have c0 := y0.cell k hlt
          have cc := S1.icell (k := k) (by rw [pad_length]; exact hlt)
          rw [pad_ix hlt, if_neg (Nat.lt_irrefl _)] at cc
          have cf := S1.thawed k
          have ce := S2.icell (k := k) (by rw [pad_length]; exact hlt)
          rw [pad_ix hlt, if_pos (Nat.lt_succ_self _)] at ce
          refine wp_region_still_tail 17 (by kernel_rfl) (by kernel_rfl) ?_
          simp only [List.take_succ_cons, List.take_zero, List.drop_succ_cons, List.drop_zero]
          repeat (first | still_call (still0 (mul_any _ _ _)) | still_call (still0 (sub_any _ _ _)) | still_step)
          refine wpStill_nil ?_
          go_wp2_with fail
          have hfe : Far (fun b => b = q1 ∨ b = q2) wc (wq.setCell ⟨q1, k, none⟩ (Value.int .i64 (sub (ix mw.cells k) (mul (g k) ln)))).drew := (hfq.st (fun _ => Or.inl rfl) _).drew
          have T1 : Box (wq.setCell ⟨q1, k, none⟩ (Value.int .i64 (sub (ix mw.cells k) (mul (g k) ln)))).drew q1 ((pad f n (k + 1)).map (Value.int .i64)) 3 := by
            rw [← HF.out k, ← pad_set hlt]
            exact (S1.iset k _).drew
          have T2 : Box (wq.setCell ⟨q1, k, none⟩ (Value.int .i64 (sub (ix mw.cells k) (mul (g k) ln)))).drew q2 ((pad g n (k + 1)).map (Value.int .i64)) 3 := (S2.far (Ne.symm hn12) _).drew
          go_roundw
          case rel => exact ⟨k + 1, by omega, by go_num, hfe, T1, T2⟩
          case measure => simp [intOf]; omega
        · obtain rfl : k = n := by omega
          have hbe : Below w.heap.size w wr := Far.toBelow hbw hfr (by have := hbw.size; omega) (fun b hb => by rcases hb with rfl | rfl <;> omega)
          have I1 := ints_pad' R1 (by unfold maxLen; omega)
          have I2 := ints_pad' R2 (by unfold maxLen; omega)
          have hE : ((k : Int) < (k : Int)) = False := by simp
          have hl1 : 0 < k → w.heap.size + 1 + 1 + 1 + 1 + 1 < q1 := fun _ => by omega
          have hl2 : 0 < k → w.heap.size + 1 + 1 + 1 + 1 + 1 < q2 := fun _ => by omega
          go_wp2_with fail
          go_region
          all_goals (
            go_wp2_with fail
            refine bodyPost_ret (v := .tuple #[.agg #[.int .i64 mw.rows, .int .i64 mw.cols, .slice (some ⟨q1, 0, none⟩) k k], .agg #[.int .i64 mw.rows, .int .i64 mw.cols, .slice (some ⟨q2, 0, none⟩) k k]]) (by simp [results, Try.results56, go_sem, B4c, B5c]) rfl ⟨_, _, rfl, ?_, ?_, ?_⟩
            · rw [HS1.out]
              exact MatNew.mk (b := q1) (off := 0) (fun _ => by omega) (by repeat (first | fail | (with_reducible exact I1) | (with_reducible refine IntsAt.alloc ?_ _) | (with_reducible refine IntsAt.drewN ?_ _) | (with_reducible refine IntsAt.drew ?_) | (with_reducible refine IntsAt.set ?_ ?_ _; rotate_left 1; (intro h0; have hq0 := hl1 h0; first | (dsimp only; omega) | omega | (simp; omega) | simp)) | exact I1))
            · rw [HS2.out]
              exact MatNew.mk (b := q2) (off := 0) (fun _ => by omega) (by repeat (first | fail | (with_reducible exact I2) | (with_reducible refine IntsAt.alloc ?_ _) | (with_reducible refine IntsAt.drewN ?_ _) | (with_reducible refine IntsAt.drew ?_) | (with_reducible refine IntsAt.set ?_ ?_ _; rotate_left 1; (intro h0; have hq0 := hl2 h0; first | (dsimp only; omega) | omega | (simp; omega) | simp)) | exact I2))
            · exact (by repeat (first | fail | (with_reducible exact Below.refl _ _) | (with_reducible exact hbe) | (with_reducible refine Below.al ?_ _) | (with_reducible refine Below.drN ?_ _) | (with_reducible refine Below.drew ?_) | (with_reducible refine Below.st ?_ ?_ _; rotate_left 1; (first | (dsimp only; omega) | omega | (simp; omega) | simp)) | exact Below.refl _ _ | exact hbe)))
end Go.Proofs.Ytgknjikjjklaiaa
end
section
set_option linter.unusedVariables false
set_option linter.unusedSimpArgs false
set_option linter.unusedSectionVars false
namespace Gal
open Go Go.RowKit
/-- one of four -/
def quad {α : Type} (x0 x1 x2 x3 : α) : Nat → α | 0 => x0 | 1 => x1 | 2 => x2 | _ => x3
def pairM (v d : Grd) : Nat → Mat := quad v.W v.B d.W d.B
def pairL (l : Lay) : Nat → Mat := quad l.W l.B l.W l.B
theorem four {t : Nat} (h : t < 4) : t = 0 ∨ t = 1 ∨ t = 2 ∨ t = 3 := by omega
theorem fits_at {l : Lay} {v d : Grd} (h0 : l.fault = 0) {t : Nat} (ht : t < 4) (hz : ∀ u, u < t → (pairM v d u).fault = 0) (hn : (pairM v d t).fault ≠ 0) : fitsFault l v d = (pairM v d t).fault := by
  unfold fitsFault
  rw [if_neg (by simp [h0])]
  rcases four ht with rfl | rfl | rfl | rfl
  · rw [if_pos (show v.W.fault ≠ 0 from hn)]; rfl
  · rw [if_neg (by simpa using (show v.W.fault = 0 from hz 0 (by omega))), if_pos (show v.B.fault ≠ 0 from hn)]; rfl
  · rw [if_neg (by simpa using (show v.W.fault = 0 from hz 0 (by omega))), if_neg (by simpa using (show v.B.fault = 0 from hz 1 (by omega))), if_pos (show d.W.fault ≠ 0 from hn)]; rfl
  · rw [if_neg (by simpa using (show v.W.fault = 0 from hz 0 (by omega))), if_neg (by simpa using (show v.B.fault = 0 from hz 1 (by omega))), if_neg (by simpa using (show d.W.fault = 0 from hz 2 (by omega))), if_pos (show d.B.fault ≠ 0 from hn)]; rfl
theorem fits_tail {l : Lay} {v d : Grd} (h0 : l.fault = 0) (hz : ∀ u, u < 4 → (pairM v d u).fault = 0) : fitsFault l v d = if likeShape v.W l.W ∧ likeShape v.B l.B ∧ likeShape d.W l.W ∧ likeShape d.B l.B then 0 else 2 := by
  unfold fitsFault
  rw [if_neg (by simp [h0]), if_neg (by simpa using (show v.W.fault = 0 from hz 0 (by omega))), if_neg (by simpa using (show v.B.fault = 0 from hz 1 (by omega))), if_neg (by simpa using (show d.W.fault = 0 from hz 2 (by omega))), if_neg (by simpa using (show d.B.fault = 0 from hz 3 (by omega)))]
theorem fits_shape {l : Lay} {v d : Grd} (h0 : l.fault = 0) (hz : ∀ u, u < 4 → (pairM v d u).fault = 0) {t : Nat} (ht : t < 4) (hs : ¬ likeShape (pairM v d t) (pairL l t)) : fitsFault l v d = 2 := by
  rw [fits_tail h0 hz, if_neg]
  rintro ⟨s0, s1, s2, s3⟩
  rcases four ht with rfl | rfl | rfl | rfl
  · exact hs s0
  · exact hs s1
  · exact hs s2
  · exact hs s3
theorem fits_fine {l : Lay} {v d : Grd} (h0 : l.fault = 0) (hz : ∀ u, u < 4 → (pairM v d u).fault = 0) (hs : ∀ u, u < 4 → likeShape (pairM v d u) (pairL l u)) : fitsFault l v d = 0 := by
  rw [fits_tail h0 hz, if_pos ⟨hs 0 (by omega), hs 1 (by omega), hs 2 (by omega), hs 3 (by omega)⟩]
/-- a whole array into the block that was made last -/
theorem wpList_store_new {P : Program} {ops : Array Oper} {rest : List Oper} {op : Oper} {a : Act} {w : World} {Q : Exit → Act → World → Prop} (hgd : op.guard = none) (ty : TypeId) (x y : Operand) (ho : op.op = .store ty x y)
    (c c' : Array Value) (hx : a.eval x = .pointer (some ⟨w.heap.size, 0, none⟩)) (hy : a.eval y = .agg c') (hi : (P.info? ty).map (·.size) = some c'.size) (hs : c.size = c'.size) (h1 : c'.all (·.oneCell') = true)
    (h : wpList P ops Q rest (a.put op.dst undef) (w.alloc (.cells c' ty))) : wpList P ops Q (op :: rest) a (w.alloc (.cells c ty)) :=
  wpList_plain hgd fun _ hK => by
    unfold Oper.wp execOp
    simp only [ho, hx, hy, Instr.storeAt, Instr.sureAddr, Sem.run_bind, Sem.run_pure, Result.andThen_ok, run_storeVar_new w ty c c' hi hs h1]
    exact hK _ _ h
end Gal
namespace Go.Proofs.Ytgknjikjjklaiaa
open Go.RowKit Gal
set_option maxRecDepth 100000
set_option maxHeartbeats 2000000
theorem fits_any (l : Lay) (v d : Grd) (a0 a1 a2 a3 a4 a5 : Option Addr) (n0 n1 n2 n3 n4 n5 k0 k1 k2 k3 k4 k5 b0 b1 b2 b3 b4 b5 o0 o1 o2 o3 o4 o5 : Nat) (w : World)
    (x0 : IntsAt w a0 n0 k0 b0 o0 l.W.cells) (x1 : IntsAt w a1 n1 k1 b1 o1 l.B.cells) (x2 : IntsAt w a2 n2 k2 b2 o2 v.W.cells) (x3 : IntsAt w a3 n3 k3 b3 o3 v.B.cells) (x4 : IntsAt w a4 n4 k4 b4 o4 d.W.cells) (x5 : IntsAt w a5 n5 k5 b5 o5 d.B.cells) :
    Calls Try.prog 55 #[.agg #[.int .i64 l.kind, .int .i64 l.W.rows, .int .i64 l.W.cols, .slice a0 n0 k0, .int .i64 l.B.rows, .int .i64 l.B.cols, .slice a1 n1 k1],
      .agg #[.int .i64 v.W.rows, .int .i64 v.W.cols, .slice a2 n2 k2, .int .i64 v.B.rows, .int .i64 v.B.cols, .slice a3 n3 k3],
      .agg #[.int .i64 d.W.rows, .int .i64 d.W.cols, .slice a4 n4 k4, .int .i64 d.B.rows, .int .i64 d.B.cols, .slice a5 n5 k5]] w fun e w' =>
      e = .returned (errV (fitsFault l v d)) ∧ Below w.heap.size w w' := by
  by_cases hl : l.fault = 0
  · obtain ⟨arr, harr⟩ : ∃ arr : List Value, arr = [.int .i64 v.W.rows, .int .i64 v.W.cols, .slice a2 n2 k2, .int .i64 l.W.rows, .int .i64 l.W.cols, .slice a0 n0 k0, .int .i64 v.B.rows, .int .i64 v.B.cols, .slice a3 n3 k3, .int .i64 l.B.rows, .int .i64 l.B.cols, .slice a1 n1 k1,
        .int .i64 d.W.rows, .int .i64 d.W.cols, .slice a4 n4 k4, .int .i64 l.W.rows, .int .i64 l.W.cols, .slice a0 n0 k0, .int .i64 d.B.rows, .int .i64 d.B.cols, .slice a5 n5 k5, .int .i64 l.B.rows, .int .i64 l.B.cols, .slice a1 n1 k1] := ⟨_, rfl⟩
    have HIX : Hid (∀ t, t < 4 → ∃ (m lm : Mat) (a : Option Addr) (n k b o : Nat) (a' : Option Addr) (n' k' : Nat), m = pairM v d t ∧ lm = pairL l t ∧ IntsAt w a n k b o m.cells ∧
        ∀ W, (Instr.index 127 (.agg arr.toArray) (.int .i64 (t : Int))).run Try.prog W = .ok (.agg #[.int .i64 m.rows, .int .i64 m.cols, .slice a n k, .int .i64 lm.rows, .int .i64 lm.cols, .slice a' n' k']) W) := by
      refine Lib.hid fun t ht => ?_
      subst harr
      rcases four ht with rfl | rfl | rfl | rfl
      · exact ⟨v.W, l.W, a2, n2, k2, b2, o2, a0, n0, k0, rfl, rfl, x2, fun W => by kernel_rfl⟩
      · exact ⟨v.B, l.B, a3, n3, k3, b3, o3, a1, n1, k1, rfl, rfl, x3, fun W => by kernel_rfl⟩
      · exact ⟨d.W, l.W, a4, n4, k4, b4, o4, a0, n0, k0, rfl, rfl, x4, fun W => by kernel_rfl⟩
      · exact ⟨d.B, l.B, a5, n5, k5, b5, o5, a1, n1, k1, rfl, rfl, x5, fun W => by kernel_rfl⟩
    have HL := Lib.hid hl
    have HARR := Lib.hid harr
    have HE : errV l.fault = .nilIface := errV_nil hl
    clear hl harr
    go_enter Try.func55, Try.ntmps55
    go_wp2_with fail
    refine (layCheck_any l _ _ ⟨a0, n0, k0, b0, o0, a1, n1, k1, b1, o1, rfl, (x0.alloc _ |>.alloc _ |>.alloc _), (x1.alloc _ |>.alloc _ |>.alloc _)⟩).mono ?_
    rw [HE]
    rintro e w1 ⟨rfl, hb1⟩
    have B0 := ((show Box _ w.heap.size [.int .i64 l.kind, .int .i64 l.W.rows, .int .i64 l.W.cols, .slice a0 n0 k0, .int .i64 l.B.rows, .int .i64 l.B.cols, .slice a1 n1 k1] 65 from (by repeat (first | fail | (with_reducible refine (Box.new' _ w.heap.size _ _ ?_); (simp; done)) | (with_reducible refine Box.alloc ?_ _) | (with_reducible refine Box.drewN ?_ _) | (with_reducible refine Box.drew ?_) | (with_reducible refine Box.far ?_ ?_ _; rotate_left 1; (first | (dsimp only; omega) | omega | (simp; omega) | simp)))))).keep hb1
    have B0c := B0.cell
    have B0f := B0.thawed
    have B0z := B0.lt
    have B0k := lt_add B0z
    have B1 := ((show Box _ (w.heap.size + 1) [.int .i64 v.W.rows, .int .i64 v.W.cols, .slice a2 n2 k2, .int .i64 v.B.rows, .int .i64 v.B.cols, .slice a3 n3 k3] 67 from (by repeat (first | fail | (with_reducible refine (Box.new' _ (w.heap.size + 1) _ _ ?_); (simp; done)) | (with_reducible refine Box.alloc ?_ _) | (with_reducible refine Box.drewN ?_ _) | (with_reducible refine Box.drew ?_) | (with_reducible refine Box.far ?_ ?_ _; rotate_left 1; (first | (dsimp only; omega) | omega | (simp; omega) | simp)))))).keep hb1
    have B1c := B1.cell
    have B1f := B1.thawed
    have B1z := B1.lt
    have B1k := lt_add B1z
    have B2 := ((show Box _ (w.heap.size + 1 + 1) [.int .i64 d.W.rows, .int .i64 d.W.cols, .slice a4 n4 k4, .int .i64 d.B.rows, .int .i64 d.B.cols, .slice a5 n5 k5] 67 from (by repeat (first | fail | (with_reducible refine (Box.new' _ (w.heap.size + 1 + 1) _ _ ?_); (simp; done)) | (with_reducible refine Box.alloc ?_ _) | (with_reducible refine Box.drewN ?_ _) | (with_reducible refine Box.drew ?_) | (with_reducible refine Box.far ?_ ?_ _; rotate_left 1; (first | (dsimp only; omega) | omega | (simp; omega) | simp)))))).keep hb1
    have B2c := B2.cell
    have B2f := B2.thawed
    have B2z := B2.lt
    have B2k := lt_add B2z
    have HI : Hid ((Try.prog.info? 127).map (·.size) = some arr.toArray.size) := Lib.hid (by rw [HARR.out]; kernel_rfl)
    have HALL : Hid (arr.toArray.all (·.oneCell') = true) := Lib.hid (by rw [HARR.out]; simp [Value.oneCell'])
    have HS : Hid ((24 : Nat) = arr.toArray.size) := Lib.hid (by rw [HARR.out]; rfl)
    have hbw : Below w.heap.size w w1 := (by repeat (first | fail | (with_reducible exact Below.refl _ _) | (with_reducible refine Below.al ?_ _) | (with_reducible refine Below.drN ?_ _) | (with_reducible refine Below.drew ?_) | (with_reducible refine Below.st ?_ ?_ _; rotate_left 1; (first | (dsimp only; omega) | omega | (simp; omega) | simp)) | (with_reducible refine Below.go ?_ hb1) | exact Below.refl _ _))
    go_wp2_with (first | refine wpList_store_new rfl 127 (.tmp 8) (.tmp 39) rfl _ arr.toArray rfl (by rw [HARR.out]; rfl) HI.out HS.out HALL.out ?_ | refine wpList_load_row rfl 127 (.tmp 8) rfl w1.heap.size rfl 127 arr.toArray (0, 0) _ (heap_alloc_last w1 _) Try.underlying127 rfl HI.out ?_)
    have P0 : Box (w1.alloc (.cells arr.toArray 127)) w1.heap.size arr 127 := Box.new _ _ _
    obtain ⟨w2, hw2, P8, hb2⟩ : ∃ w2, w1.alloc (.cells arr.toArray 127) = w2 ∧ Box w2 w1.heap.size arr 127 ∧ Below w.heap.size w w2 := ⟨_, rfl, P0, (by repeat (first | fail | (with_reducible exact Below.refl _ _) | (with_reducible exact hbw) | (with_reducible refine Below.al ?_ _) | (with_reducible refine Below.drN ?_ _) | (with_reducible refine Below.drew ?_) | (with_reducible refine Below.st ?_ ?_ _; rotate_left 1; (first | (dsimp only; omega) | omega | (simp; omega) | simp)) | exact Below.refl _ _ | exact hbw))⟩
    rw [hw2]
    clear hw2 P0 B0 B0c B0f B0z B0k B1 B1c B1f B1z B1k B2 B2c B2f B2z B2k x0 x1 x2 x3 x4 x5 hbw HE
    go_loopw [41] (fun i wr => ∃ t : Nat, t ≤ 4 ∧ i = .int .i64 t ∧ Hid (∀ u, u < t → (pairM v d u).fault = 0) ∧ Box wr w1.heap.size arr 127 ∧ Below w.heap.size w wr) (fun i _ => 4 - (intOf i).toNat)
    case atStart => exact ⟨0, by omega, rfl, Lib.hid fun u hu => absurd hu (Nat.not_lt_zero _), P8, hb2⟩
    case round =>
      obtain ⟨t, ht, rfl, HZ, Q8, hbr⟩ := hrel
      by_cases hlt : t < 4
      · obtain ⟨m, lm, a, n, k, b, o, a', n', k', hm, hlm, xm, hix⟩ := HIX.out t hlt
        have hltI : (t : Int) < 4 := by omega
        have xr := xm.keep hbr
        have HM := Lib.hid hm
        clear hm hlm xm P8
        by_cases hf : m.fault = 0
        · have HE2 : Hid (errV (matFault m.rows m.cols m.cells) = .nilIface) := Lib.hid (errV_nil hf)
          have HF := Lib.hid hf
          clear hf
          go_wp2_with fail
          refine (matCheck_any _ _ _ _ _ _ _ m.cells _ (show IntsAt _ a n k b o m.cells from (by repeat (first | fail | (with_reducible exact xr) | (with_reducible refine IntsAt.alloc ?_ _) | (with_reducible refine IntsAt.drewN ?_ _) | (with_reducible refine IntsAt.drew ?_) | (with_reducible refine IntsAt.set ?_ ?_ _; rotate_left 1; (intro h0; first | (dsimp only; omega) | omega | (simp; omega) | simp)) | exact xr)))).mono ?_
          rw [HE2.out]
          rintro e w3 ⟨rfl, hb3⟩
          have hbe : Below w.heap.size w w3 := (by repeat (first | fail | (with_reducible exact Below.refl _ _) | (with_reducible exact hbr) | (with_reducible refine Below.al ?_ _) | (with_reducible refine Below.drN ?_ _) | (with_reducible refine Below.drew ?_) | (with_reducible refine Below.st ?_ ?_ _; rotate_left 1; (first | (dsimp only; omega) | omega | (simp; omega) | simp)) | (with_reducible refine Below.go ?_ hb3) | exact Below.refl _ _ | exact hbr))
          have Q9 : Box w3 w1.heap.size arr 127 := (by repeat (first | fail | (with_reducible exact Q8) | (with_reducible refine Box.alloc ?_ _) | (with_reducible refine Box.drewN ?_ _) | (with_reducible refine Box.drew ?_) | (with_reducible refine Box.far ?_ ?_ _; rotate_left 1; (first | (dsimp only; omega) | omega | (simp; omega) | simp)) | (with_reducible refine Box.keep ?_ hb3) | exact Q8))
          go_wp2
          go_roundw
          case rel => exact ⟨t + 1, by omega, by go_num, Lib.hid fun u hu => by
            rcases Nat.lt_or_ge u t with g | g
            · exact HZ.out u g
            · obtain rfl : u = t := by omega
              rw [← HM.out]; exact HF.out, Q9, hbe⟩
          case measure => simp [intOf]; omega
        · have HE2 : Hid (errV (matFault m.rows m.cols m.cells) = .iface 56 (.int .i64 m.fault)) := Lib.hid (errV_err hf)
          have HR : Hid (errV (fitsFault l v d) = .iface 56 (.int .i64 m.fault)) := Lib.hid (by rw [fits_at HL.out hlt HZ.out (by rw [← HM.out]; exact hf), ← HM.out]; exact errV_err hf)
          clear hf
          go_wp2_with fail
          refine (matCheck_any _ _ _ _ _ _ _ m.cells _ (show IntsAt _ a n k b o m.cells from (by repeat (first | fail | (with_reducible exact xr) | (with_reducible refine IntsAt.alloc ?_ _) | (with_reducible refine IntsAt.drewN ?_ _) | (with_reducible refine IntsAt.drew ?_) | (with_reducible refine IntsAt.set ?_ ?_ _; rotate_left 1; (intro h0; first | (dsimp only; omega) | omega | (simp; omega) | simp)) | exact xr)))).mono ?_
          rw [HE2.out]
          rintro e w3 ⟨rfl, hb3⟩
          have hbe : Below w.heap.size w w3 := (by repeat (first | fail | (with_reducible exact Below.refl _ _) | (with_reducible exact hbr) | (with_reducible refine Below.al ?_ _) | (with_reducible refine Below.drN ?_ _) | (with_reducible refine Below.drew ?_) | (with_reducible refine Below.st ?_ ?_ _; rotate_left 1; (first | (dsimp only; omega) | omega | (simp; omega) | simp)) | (with_reducible refine Below.go ?_ hb3) | exact Below.refl _ _ | exact hbr))
          go_wp2
          go_ret
          exact ⟨by rw [HR.out]; rfl, hbe⟩
      · obtain rfl : t = 4 := by omega
        clear P8
        go_wp2_with (refine wpList_load_row rfl 127 (.tmp 8) rfl w1.heap.size rfl 127 arr.toArray (0, 0) _ Q8 Try.underlying127 rfl HI.out ?_)
        go_loopw [52] (fun i wr' => ∃ t : Nat, t ≤ 4 ∧ i = .int .i64 t ∧ Hid (∀ u, u < t → likeShape (pairM v d u) (pairL l u)) ∧ Below w.heap.size w wr') (fun i _ => 4 - (intOf i).toNat)
        case atStart => exact ⟨0, by omega, rfl, Lib.hid fun u hu => absurd hu (Nat.not_lt_zero _), hbr⟩
        case round =>
          obtain ⟨t, ht, rfl, HK, hbs⟩ := hrel
          by_cases hlt : t < 4
          · obtain ⟨m, lm, a, n, k, b, o, a', n', k', hm, hlm, xm, hix⟩ := HIX.out t hlt
            have hltI : (t : Int) < 4 := by omega
            have HM := Lib.hid hm
            have HLM := Lib.hid hlm
            clear hm hlm xm Q8
            by_cases hr : m.rows = lm.rows
            · have q3 : (m.rows != lm.rows) = false := by simp [hr]
              by_cases hc : m.cols = lm.cols
              · have q4 : (m.cols != lm.cols) = false := by simp [hc]
                have HB := Lib.hid hr
                have HC := Lib.hid hc
                clear hr hc
                go_wp2
                go_roundw
                case rel => exact ⟨t + 1, by omega, by go_num, Lib.hid fun u hu => by
                  rcases Nat.lt_or_ge u t with g | g
                  · exact HK.out u g
                  · obtain rfl : u = t := by omega
                    rw [← HM.out, ← HLM.out]; exact ⟨HB.out, HC.out⟩, (by repeat (first | fail | (with_reducible exact Below.refl _ _) | (with_reducible exact hbs) | (with_reducible refine Below.al ?_ _) | (with_reducible refine Below.drN ?_ _) | (with_reducible refine Below.drew ?_) | (with_reducible refine Below.st ?_ ?_ _; rotate_left 1; (first | (dsimp only; omega) | omega | (simp; omega) | simp)) | exact Below.refl _ _ | exact hbs))⟩
                case measure => simp [intOf]; omega
              · have q4 : (m.cols != lm.cols) = true := by simp [hc]
                have HR : Hid (errV (fitsFault l v d) = .iface 56 (.int .i64 2)) := Lib.hid (by rw [fits_shape HL.out HZ.out hlt (by rw [← HM.out, ← HLM.out]; exact fun h => hc h.2)]; exact errV_err (by decide))
                clear hr hc
                go_wp2
                go_ret
                exact ⟨by rw [HR.out]; rfl, (by repeat (first | fail | (with_reducible exact Below.refl _ _) | (with_reducible exact hbs) | (with_reducible refine Below.al ?_ _) | (with_reducible refine Below.drN ?_ _) | (with_reducible refine Below.drew ?_) | (with_reducible refine Below.st ?_ ?_ _; rotate_left 1; (first | (dsimp only; omega) | omega | (simp; omega) | simp)) | exact Below.refl _ _ | exact hbs))⟩
            · have q3 : (m.rows != lm.rows) = true := by simp [hr]
              have HR : Hid (errV (fitsFault l v d) = .iface 56 (.int .i64 2)) := Lib.hid (by rw [fits_shape HL.out HZ.out hlt (by rw [← HM.out, ← HLM.out]; exact fun h => hr h.1)]; exact errV_err (by decide))
              clear hr
              go_wp2
              go_ret
              exact ⟨by rw [HR.out]; rfl, (by repeat (first | fail | (with_reducible exact Below.refl _ _) | (with_reducible exact hbs) | (with_reducible refine Below.al ?_ _) | (with_reducible refine Below.drN ?_ _) | (with_reducible refine Below.drew ?_) | (with_reducible refine Below.st ?_ ?_ _; rotate_left 1; (first | (dsimp only; omega) | omega | (simp; omega) | simp)) | exact Below.refl _ _ | exact hbs))⟩
          · obtain rfl : t = 4 := by omega
            have HR : Hid (errV (fitsFault l v d) = .nilIface) := Lib.hid (by rw [fits_fine HL.out HZ.out HK.out]; exact errV_nil rfl)
            go_wp2
            go_ret
            exact ⟨by rw [HR.out]; rfl, (by repeat (first | fail | (with_reducible exact Below.refl _ _) | (with_reducible exact hbs) | (with_reducible refine Below.al ?_ _) | (with_reducible refine Below.drN ?_ _) | (with_reducible refine Below.drew ?_) | (with_reducible refine Below.st ?_ ?_ _; rotate_left 1; (first | (dsimp only; omega) | omega | (simp; omega) | simp)) | exact Below.refl _ _ | exact hbs))⟩
  · have HE : errV l.fault = .iface 56 (.int .i64 l.fault) := errV_err hl
    have HF : errV (fitsFault l v d) = errV l.fault := by unfold fitsFault; rw [if_pos hl]
    rw [HF, HE]
    clear HF hl
    go_enter Try.func55, Try.ntmps55
    go_wp2_with fail
    refine (layCheck_any l _ _ ⟨a0, n0, k0, b0, o0, a1, n1, k1, b1, o1, rfl, (by repeat (first | fail | (with_reducible exact x0) | (with_reducible refine IntsAt.alloc ?_ _) | (with_reducible refine IntsAt.drewN ?_ _) | (with_reducible refine IntsAt.drew ?_) | (with_reducible refine IntsAt.set ?_ ?_ _; rotate_left 1; (intro h0; first | (dsimp only; omega) | omega | (simp; omega) | simp)) | exact x0)), (by repeat (first | fail | (with_reducible exact x1) | (with_reducible refine IntsAt.alloc ?_ _) | (with_reducible refine IntsAt.drewN ?_ _) | (with_reducible refine IntsAt.drew ?_) | (with_reducible refine IntsAt.set ?_ ?_ _; rotate_left 1; (intro h0; first | (dsimp only; omega) | omega | (simp; omega) | simp)) | exact x1))⟩).mono ?_
    rw [HE]
    rintro e w1 ⟨rfl, hb1⟩
    go_wp2_with fail
    go_ret
    exact ⟨rfl, (by repeat (first | fail | (with_reducible exact Below.refl _ _) | (with_reducible refine Below.al ?_ _) | (with_reducible refine Below.drN ?_ _) | (with_reducible refine Below.drew ?_) | (with_reducible refine Below.st ?_ ?_ _; rotate_left 1; (first | (dsimp only; omega) | omega | (simp; omega) | simp)) | (with_reducible refine Below.go ?_ hb1) | exact Below.refl _ _))⟩
end Go.Proofs.Ytgknjikjjklaiaa
end
