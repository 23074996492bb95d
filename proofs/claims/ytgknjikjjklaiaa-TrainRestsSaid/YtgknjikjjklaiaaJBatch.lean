/- Some small texts, joined: Batch1, Batch2. -/
import Derived.Test.YtgknjikjjklaiaaJMat
import Derived.Test.YtgknjikjjklaiaaBaseR
import Derived.Test.YtgknjikjjklaiaaJPlain
import Derived.Test.YtgknjikjjklaiaaMade
import Derived.Test.YtgknjikjjklaiaaOpens
import Derived.Test.YtgknjikjjklaiaaMat8
section
set_option linter.unusedVariables false
set_option linter.unusedSimpArgs false
namespace Go.Proofs.Ytgknjikjjklaiaa
open Go.RowKit Gal

set_option maxRecDepth 100000 in
set_option maxHeartbeats 1000000 in
theorem batchSizes_ok (R P : Nat) (w : World) (hR : R ≤ 24) (hP : P ≤ 12) (h1 : 1 ≤ P) (hPR : P ≤ R) :
    Calls Try.prog 50 #[.int .i64 R, .int .i64 P] w fun e w' => ∃ v, e = .returned (.tuple #[v, .nilIface]) ∧
      w'.ownsRow w.heap.size 3 1 v P ((ints (sizesOf R P)).map (Value.int .i64)) ∧ Below w.heap.size w w' := by
  obtain ⟨i0, hi, hz0, hz1, hz2⟩ := info_parts info_int
  have hRP : decide (R < P) = false := decide_eq_false (by omega)
  go_enter Try.func50, Try.ntmps50
  go_wp2
  go_loopw [0, 6, 7, 8] (fun r o l n wr => ∃ (left R' : Nat) (pre : List Nat), l = .int .i64 left ∧ r = .int .i64 R' ∧ R' ≤ 24 ∧ left ≤ R' ∧ Hid (sizesOf R P = pre ++ sizesOf R' left) ∧ pre.length + left = P ∧
      wr.ownsRow w.heap.size 3 1 o pre.length ((ints pre).map (Value.int .i64)) ∧ Below w.heap.size w wr) (fun r o l n _ => (intOf l).toNat)
  case atStart => exact ⟨P, R, [], rfl, rfl, hR, hPR, Lib.hid rfl, by simp, World.ownsRow_nil _ _ _ _, Below.refl _ _⟩
  case round =>
    obtain ⟨left, R', pre, rfl, rfl, hR', hlR, hs, hl, hown, hb⟩ := hrel
    cases left with
    | zero =>
      obtain ⟨av, cv, rfl⟩ := own_slice hown
      go_wp2
      go_ret2
      refine ⟨_, rfl, ?_, hb⟩
      have hs' := hs.out
      simp only [sizesOf, List.append_nil] at hs'
      rw [hs', ← hl]
      exact hown
    | succ m =>
      have hq : ((R' : Int) + ((m : Int) + 1) - 1) / ((m : Int) + 1) = (((R' + m) / (m + 1) : Nat) : Int) := by
        have e : (R' : Int) + ((m : Int) + 1) - 1 = ((R' + m : Nat) : Int) := by omega
        rw [e]
        exact (Int.natCast_ediv _ _).symm
      have hd1 := share_le R' m
      have hd2 := share_rest hlR
      obtain ⟨q, hqq⟩ : ∃ q, (R' + m) / (m + 1) = q := ⟨_, rfl⟩
      rw [hqq] at hq hd1 hd2
      have HQQ := Lib.hid hqq
      clear hqq
      have hl2 : (ints pre).length = pre.length := ints_length _
      go_wp2_with (at_builtin; (refine wpList_append_ints rfl (.tmp 39) (.tmp 41) 23 rfl w.heap.size 3 i0 Try.underlying23 hi hz0 hz1 hz2 _ pre.length (ints pre) rfl (hown.alloc _) _ 1 1 wr.heap.size 0 [(q : Int)] rfl (ints1 (Box.new _ _ 3)) (by omega) (by have := hb.size; simp; omega) ?_))
      intro v' w' hown' hgrow'
      have hbn : Below w.heap.size w w' := Below.grown (Below.al hb _) hgrow' (by have := hb.size; simp; omega) (fun k hk => (hown.lt k hk).1)
      obtain ⟨av, cv, rfl⟩ := own_slice hown'
      go_wp2
      go_roundw
      case rel =>
        refine ⟨m, R' - q, pre ++ [q], by go_num, by go_num, by omega, by omega, Lib.hid ?_, by simp; omega, ?_, hbn⟩
        · rw [hs.out, List.append_assoc]
          rw [sizesOf_succ, HQQ.out]
          rfl
        · rw [ints_snoc, List.length_append]
          simpa using hown'
      case measure => simp [intOf]
end Go.Proofs.Ytgknjikjjklaiaa
end
section
set_option linter.unusedVariables false
set_option linter.unusedSimpArgs false
set_option linter.unusedSectionVars false
namespace Gal
open Go Go.RowKit
def Form.bat : Form Bat := (Form.mat.and Form.mat).as fun x => ⟨x.1, x.2⟩
def BatAt (w : World) (v : Value) (b : Bat) : Prop := ∃ a n cap p o a' n' cap' p' o', v = .agg #[.int .i64 b.I.rows, .int .i64 b.I.cols, .slice a n cap, .int .i64 b.W.rows, .int .i64 b.W.cols, .slice a' n' cap'] ∧ IntsAt w a n cap p o b.I.cells ∧ IntsAt w a' n' cap' p' o' b.W.cells
theorem bat_reads {w : World} {F : Nat → Prop} {cs : List Value} {d : Bat} (h : Form.bat.reads w F cs d) :
    ∃ a n cap b o a' n' cap' b' o', cs = [.int .i64 d.I.rows, .int .i64 d.I.cols, .slice a n cap, .int .i64 d.W.rows, .int .i64 d.W.cols, .slice a' n' cap'] ∧ (0 < n → F b) ∧ IntsAt w a n cap b o d.I.cells ∧ (0 < n' → F b') ∧ IntsAt w a' n' cap' b' o' d.W.cells := by
  obtain ⟨⟨W, B⟩, ⟨c1, d1, rfl, ⟨a, n, cap, b, o, rfl, hF, x0⟩, ⟨a', n', cap', b', o', rfl, hF', x1⟩⟩, rfl⟩ := h
  exact ⟨a, n, cap, b, o, a', n', cap', b', o', rfl, hF, x0, hF', x1⟩
theorem reads_bat {w : World} {F : Nat → Prop} {d : Bat} {a a' : Option Addr} {n n' cap cap' b b' o o' : Nat} (hF : 0 < n → F b) (x0 : IntsAt w a n cap b o d.I.cells) (hF' : 0 < n' → F b') (x1 : IntsAt w a' n' cap' b' o' d.W.cells) :
    Form.bat.reads w F [.int .i64 d.I.rows, .int .i64 d.I.cols, .slice a n cap, .int .i64 d.W.rows, .int .i64 d.W.cols, .slice a' n' cap'] d :=
  ⟨(d.I, d.W), ⟨_, _, rfl, ⟨a, n, cap, b, o, rfl, hF, x0⟩, ⟨a', n', cap', b', o', rfl, hF', x1⟩⟩, rfl⟩
end Gal
namespace Go.Proofs.Ytgknjikjjklaiaa
open Go.RowKit Gal
set_option maxRecDepth 100000
set_option maxHeartbeats 2000000
theorem batchCheck_any (d : Bat) (v : Value) (w : World) (h : BatAt w v d) : Calls Try.prog 49 #[v] w fun e w' => e = .returned (errV d.fault) ∧ Below w.heap.size w w' := by
  obtain ⟨a, n, k, b, o, a', n', k', b', o', rfl, x0, x1⟩ := h
  by_cases h1 : d.I.fault = 0
  · have HE1 : Hid (errV (matFault d.I.rows d.I.cols d.I.cells) = .nilIface) := Lib.hid (errV_nil h1)
    by_cases h2 : d.W.fault = 0
    · have HE2 : Hid (errV (matFault d.W.rows d.W.cols d.W.cells) = .nilIface) := Lib.hid (errV_nil h2)
      have HF : Hid (d.fault = if d.I.rows ≠ d.W.rows ∨ d.I.rows < 1 then 2 else 0) := Lib.hid (by unfold Bat.fault; rw [if_neg (by simp [h1]), if_neg (by simp [h2])])
      clear h1 h2
      rw [HF.out]
      by_cases h3 : d.I.rows = d.W.rows
      · have q3 : (d.I.rows != d.W.rows) = false := by simp [h3]
        by_cases h4 : d.I.rows < 1
        · rw [if_pos (Or.inr h4), errV_err (by decide)]
          clear h3
          go_enter Try.func49, Try.ntmps49
          go_wp2_with fail
          refine (matCheck_any _ _ _ _ _ _ _ d.I.cells _ (x0.alloc _)).mono ?_
          rw [HE1.out]
          rintro e w1 ⟨rfl, hb1⟩
          have B1 := ((show Box _ w.heap.size [.int .i64 d.I.rows, .int .i64 d.I.cols, .slice a n k, .int .i64 d.W.rows, .int .i64 d.W.cols, .slice a' n' k'] 53 from (by repeat (first | fail | (with_reducible refine (Box.new' _ w.heap.size _ _ ?_); (simp; done)) | (with_reducible refine Box.alloc ?_ _) | (with_reducible refine Box.drewN ?_ _) | (with_reducible refine Box.drew ?_) | (with_reducible refine Box.far ?_ ?_ _; rotate_left 1; (first | (dsimp only; omega) | omega | (simp; omega) | simp)))))).keep hb1
          have B1c := B1.cell
          have B1f := B1.thawed
          have B1z := B1.lt
          have B1k := lt_add B1z
          have hkw1 : Below w.heap.size w w1 := (by repeat (first | fail | (with_reducible exact Below.refl _ _) | (with_reducible refine Below.al ?_ _) | (with_reducible refine Below.drN ?_ _) | (with_reducible refine Below.drew ?_) | (with_reducible refine Below.st ?_ ?_ _; rotate_left 1; (first | (dsimp only; omega) | omega | (simp; omega) | simp)) | (with_reducible refine Below.go ?_ hb1) | exact Below.refl _ _))
          replace x1 := x1.keep hkw1
          have hsw1 := hkw1.size
          go_wp2_with fail
          refine (matCheck_any _ _ _ _ _ _ _ d.W.cells _ x1).mono ?_
          rw [HE2.out]
          rintro e w2 ⟨rfl, hb2⟩
          have hkw2 : Below w1.heap.size w1 w2 := (by repeat (first | fail | (with_reducible exact Below.refl _ _) | (with_reducible refine Below.al ?_ _) | (with_reducible refine Below.drN ?_ _) | (with_reducible refine Below.drew ?_) | (with_reducible refine Below.st ?_ ?_ _; rotate_left 1; (first | (dsimp only; omega) | omega | (simp; omega) | simp)) | (with_reducible refine Below.go ?_ hb2) | exact Below.refl _ _))
          replace B1 := B1.keep hkw2
          replace B1c := B1.cell
          replace B1f := B1.thawed
          replace B1z := B1.lt
          replace B1k := lt_add B1z
          have hsw2 := hkw2.size
          go_wp2
          go_ret
          exact ⟨rfl, (by repeat (first | fail | (with_reducible exact Below.refl _ _) | (with_reducible refine Below.al ?_ _) | (with_reducible refine Below.drN ?_ _) | (with_reducible refine Below.drew ?_) | (with_reducible refine Below.st ?_ ?_ _; rotate_left 1; (first | (dsimp only; omega) | omega | (simp; omega) | simp)) | (with_reducible refine Below.go ?_ hb2) | (with_reducible refine Below.go ?_ hb1) | exact Below.refl _ _))⟩
        · rw [if_neg (by rintro (q | q); exact q h3; exact h4 q), errV_nil rfl]
          clear h3
          go_enter Try.func49, Try.ntmps49
          go_wp2_with fail
          refine (matCheck_any _ _ _ _ _ _ _ d.I.cells _ (x0.alloc _)).mono ?_
          rw [HE1.out]
          rintro e w1 ⟨rfl, hb1⟩
          have B1 := ((show Box _ w.heap.size [.int .i64 d.I.rows, .int .i64 d.I.cols, .slice a n k, .int .i64 d.W.rows, .int .i64 d.W.cols, .slice a' n' k'] 53 from (by repeat (first | fail | (with_reducible refine (Box.new' _ w.heap.size _ _ ?_); (simp; done)) | (with_reducible refine Box.alloc ?_ _) | (with_reducible refine Box.drewN ?_ _) | (with_reducible refine Box.drew ?_) | (with_reducible refine Box.far ?_ ?_ _; rotate_left 1; (first | (dsimp only; omega) | omega | (simp; omega) | simp)))))).keep hb1
          have B1c := B1.cell
          have B1f := B1.thawed
          have B1z := B1.lt
          have B1k := lt_add B1z
          have hkw1 : Below w.heap.size w w1 := (by repeat (first | fail | (with_reducible exact Below.refl _ _) | (with_reducible refine Below.al ?_ _) | (with_reducible refine Below.drN ?_ _) | (with_reducible refine Below.drew ?_) | (with_reducible refine Below.st ?_ ?_ _; rotate_left 1; (first | (dsimp only; omega) | omega | (simp; omega) | simp)) | (with_reducible refine Below.go ?_ hb1) | exact Below.refl _ _))
          replace x1 := x1.keep hkw1
          have hsw1 := hkw1.size
          go_wp2_with fail
          refine (matCheck_any _ _ _ _ _ _ _ d.W.cells _ x1).mono ?_
          rw [HE2.out]
          rintro e w2 ⟨rfl, hb2⟩
          have hkw2 : Below w1.heap.size w1 w2 := (by repeat (first | fail | (with_reducible exact Below.refl _ _) | (with_reducible refine Below.al ?_ _) | (with_reducible refine Below.drN ?_ _) | (with_reducible refine Below.drew ?_) | (with_reducible refine Below.st ?_ ?_ _; rotate_left 1; (first | (dsimp only; omega) | omega | (simp; omega) | simp)) | (with_reducible refine Below.go ?_ hb2) | exact Below.refl _ _))
          replace B1 := B1.keep hkw2
          replace B1c := B1.cell
          replace B1f := B1.thawed
          replace B1z := B1.lt
          replace B1k := lt_add B1z
          have hsw2 := hkw2.size
          go_wp2
          go_ret
          exact ⟨rfl, (by repeat (first | fail | (with_reducible exact Below.refl _ _) | (with_reducible refine Below.al ?_ _) | (with_reducible refine Below.drN ?_ _) | (with_reducible refine Below.drew ?_) | (with_reducible refine Below.st ?_ ?_ _; rotate_left 1; (first | (dsimp only; omega) | omega | (simp; omega) | simp)) | (with_reducible refine Below.go ?_ hb2) | (with_reducible refine Below.go ?_ hb1) | exact Below.refl _ _))⟩
      · have q3 : (d.I.rows != d.W.rows) = true := by simp [h3]
        rw [if_pos (Or.inl h3), errV_err (by decide)]
        clear h3
        go_enter Try.func49, Try.ntmps49
        go_wp2_with fail
        refine (matCheck_any _ _ _ _ _ _ _ d.I.cells _ (x0.alloc _)).mono ?_
        rw [HE1.out]
        rintro e w1 ⟨rfl, hb1⟩
        have B1 := ((show Box _ w.heap.size [.int .i64 d.I.rows, .int .i64 d.I.cols, .slice a n k, .int .i64 d.W.rows, .int .i64 d.W.cols, .slice a' n' k'] 53 from (by repeat (first | fail | (with_reducible refine (Box.new' _ w.heap.size _ _ ?_); (simp; done)) | (with_reducible refine Box.alloc ?_ _) | (with_reducible refine Box.drewN ?_ _) | (with_reducible refine Box.drew ?_) | (with_reducible refine Box.far ?_ ?_ _; rotate_left 1; (first | (dsimp only; omega) | omega | (simp; omega) | simp)))))).keep hb1
        have B1c := B1.cell
        have B1f := B1.thawed
        have B1z := B1.lt
        have B1k := lt_add B1z
        have hkw1 : Below w.heap.size w w1 := (by repeat (first | fail | (with_reducible exact Below.refl _ _) | (with_reducible refine Below.al ?_ _) | (with_reducible refine Below.drN ?_ _) | (with_reducible refine Below.drew ?_) | (with_reducible refine Below.st ?_ ?_ _; rotate_left 1; (first | (dsimp only; omega) | omega | (simp; omega) | simp)) | (with_reducible refine Below.go ?_ hb1) | exact Below.refl _ _))
        replace x1 := x1.keep hkw1
        have hsw1 := hkw1.size
        go_wp2_with fail
        refine (matCheck_any _ _ _ _ _ _ _ d.W.cells _ x1).mono ?_
        rw [HE2.out]
        rintro e w2 ⟨rfl, hb2⟩
        have hkw2 : Below w1.heap.size w1 w2 := (by repeat (first | fail | (with_reducible exact Below.refl _ _) | (with_reducible refine Below.al ?_ _) | (with_reducible refine Below.drN ?_ _) | (with_reducible refine Below.drew ?_) | (with_reducible refine Below.st ?_ ?_ _; rotate_left 1; (first | (dsimp only; omega) | omega | (simp; omega) | simp)) | (with_reducible refine Below.go ?_ hb2) | exact Below.refl _ _))
        replace B1 := B1.keep hkw2
        replace B1c := B1.cell
        replace B1f := B1.thawed
        replace B1z := B1.lt
        replace B1k := lt_add B1z
        have hsw2 := hkw2.size
        go_wp2
        go_ret
        exact ⟨rfl, (by repeat (first | fail | (with_reducible exact Below.refl _ _) | (with_reducible refine Below.al ?_ _) | (with_reducible refine Below.drN ?_ _) | (with_reducible refine Below.drew ?_) | (with_reducible refine Below.st ?_ ?_ _; rotate_left 1; (first | (dsimp only; omega) | omega | (simp; omega) | simp)) | (with_reducible refine Below.go ?_ hb2) | (with_reducible refine Below.go ?_ hb1) | exact Below.refl _ _))⟩
    · have HE2 : Hid (errV (matFault d.W.rows d.W.cols d.W.cells) = .iface 56 (.int .i64 d.W.fault)) := Lib.hid (errV_err h2)
      have HF : Hid (errV d.fault = .iface 56 (.int .i64 d.W.fault)) := Lib.hid (by unfold Bat.fault; rw [if_neg (by simp [h1]), if_pos h2]; exact errV_err h2)
      clear h1 h2
      rw [HF.out]
      go_enter Try.func49, Try.ntmps49
      go_wp2_with fail
      refine (matCheck_any _ _ _ _ _ _ _ d.I.cells _ (x0.alloc _)).mono ?_
      rw [HE1.out]
      rintro e w1 ⟨rfl, hb1⟩
      have B1 := ((show Box _ w.heap.size [.int .i64 d.I.rows, .int .i64 d.I.cols, .slice a n k, .int .i64 d.W.rows, .int .i64 d.W.cols, .slice a' n' k'] 53 from (by repeat (first | fail | (with_reducible refine (Box.new' _ w.heap.size _ _ ?_); (simp; done)) | (with_reducible refine Box.alloc ?_ _) | (with_reducible refine Box.drewN ?_ _) | (with_reducible refine Box.drew ?_) | (with_reducible refine Box.far ?_ ?_ _; rotate_left 1; (first | (dsimp only; omega) | omega | (simp; omega) | simp)))))).keep hb1
      have B1c := B1.cell
      have B1f := B1.thawed
      have B1z := B1.lt
      have B1k := lt_add B1z
      have hkw1 : Below w.heap.size w w1 := (by repeat (first | fail | (with_reducible exact Below.refl _ _) | (with_reducible refine Below.al ?_ _) | (with_reducible refine Below.drN ?_ _) | (with_reducible refine Below.drew ?_) | (with_reducible refine Below.st ?_ ?_ _; rotate_left 1; (first | (dsimp only; omega) | omega | (simp; omega) | simp)) | (with_reducible refine Below.go ?_ hb1) | exact Below.refl _ _))
      replace x1 := x1.keep hkw1
      have hsw1 := hkw1.size
      go_wp2_with fail
      refine (matCheck_any _ _ _ _ _ _ _ d.W.cells _ x1).mono ?_
      rw [HE2.out]
      rintro e w2 ⟨rfl, hb2⟩
      go_wp2
      go_ret
      exact ⟨rfl, (by repeat (first | fail | (with_reducible exact Below.refl _ _) | (with_reducible refine Below.al ?_ _) | (with_reducible refine Below.drN ?_ _) | (with_reducible refine Below.drew ?_) | (with_reducible refine Below.st ?_ ?_ _; rotate_left 1; (first | (dsimp only; omega) | omega | (simp; omega) | simp)) | (with_reducible refine Below.go ?_ hb2) | (with_reducible refine Below.go ?_ hb1) | exact Below.refl _ _))⟩
  · have HE1 : Hid (errV (matFault d.I.rows d.I.cols d.I.cells) = .iface 56 (.int .i64 d.I.fault)) := Lib.hid (errV_err h1)
    have HF : Hid (errV d.fault = .iface 56 (.int .i64 d.I.fault)) := Lib.hid (by unfold Bat.fault; rw [if_pos h1]; exact errV_err h1)
    clear h1
    rw [HF.out]
    go_enter Try.func49, Try.ntmps49
    go_wp2_with fail
    refine (matCheck_any _ _ _ _ _ _ _ d.I.cells _ (x0.alloc _)).mono ?_
    rw [HE1.out]
    rintro e w1 ⟨rfl, hb1⟩
    go_wp2
    go_ret
    exact ⟨rfl, (by repeat (first | fail | (with_reducible exact Below.refl _ _) | (with_reducible refine Below.al ?_ _) | (with_reducible refine Below.drN ?_ _) | (with_reducible refine Below.drew ?_) | (with_reducible refine Below.st ?_ ?_ _; rotate_left 1; (first | (dsimp only; omega) | omega | (simp; omega) | simp)) | (with_reducible refine Below.go ?_ hb1) | exact Below.refl _ _))⟩
theorem batchSizes_bad (r p : Int) (w : World) (hf : sizesFault r p ≠ 0) :
    Calls Try.prog 50 #[.int .i64 r, .int .i64 p] w fun e w' => e = .returned (.tuple #[.slice none 0 0, .iface 56 (.int .i64 (sizesFault r p))]) ∧ w = w' := by
  by_cases h1 : r < 1 ∨ 24 < r ∨ p < 1 ∨ 12 < p
  · have h0 : sizesFault r p = 1 := if_pos h1
    rw [h0]
    clear hf h0
    go_enter Try.func50, Try.ntmps50
    by_cases q1 : r < 1
    · go_wp2
      go_ret2
      exact ⟨rfl, rfl⟩
    · by_cases q2 : 24 < r
      · go_wp2
        go_ret2
        exact ⟨rfl, rfl⟩
      · by_cases q3 : p < 1
        · go_wp2
          go_ret2
          exact ⟨rfl, rfl⟩
        · have q4 : 12 < p := by omega
          go_wp2
          go_ret2
          exact ⟨rfl, rfl⟩
  · have h2 : r < p := by
      rcases Int.lt_or_le r p with h | h
      · exact h
      · exact absurd (show sizesFault r p = 0 by unfold sizesFault; rw [if_neg h1, if_neg (by omega)]) hf
    have h0 : sizesFault r p = 2 := by unfold sizesFault; rw [if_neg h1, if_pos h2]
    rw [h0]
    have q1 : ¬ r < 1 := by omega
    have q2 : ¬ 24 < r := by omega
    have q3 : ¬ p < 1 := by omega
    have q4 : ¬ 12 < p := by omega
    clear hf h0 h1
    go_enter Try.func50, Try.ntmps50
    go_wp2
    go_ret2
    exact ⟨rfl, rfl⟩
end Go.Proofs.Ytgknjikjjklaiaa
end
