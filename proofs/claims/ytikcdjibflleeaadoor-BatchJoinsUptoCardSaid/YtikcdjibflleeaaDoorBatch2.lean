/- Contracts of package batch: Check, Sizes of any numbers. -/
import Derived.Test.YtikcdjibflleeaaDoorBatch1
import Derived.Test.YtikcdjibflleeaaDoorOpens
import Derived.Test.YtikcdjibflleeaaDoorMat8
set_option linter.unusedVariables false
set_option linter.unusedSimpArgs false
set_option linter.unusedSectionVars false
namespace Gal
open Go Go.RowKit
/-- a batch: rows, and what ought to come of them -/
structure Bat where
  I : Mat
  W : Mat
def Bat.fault (b : Bat) : Int := if b.I.fault ≠ 0 then b.I.fault else if b.W.fault ≠ 0 then b.W.fault else if b.I.rows ≠ b.W.rows ∨ b.I.rows < 1 then 2 else 0
def Form.bat : Form Bat := (Form.mat.and Form.mat).as fun x => ⟨x.1, x.2⟩
def BatAt (w : World) (v : Value) (b : Bat) : Prop := ∃ a n cap p o a' n' cap' p' o', v = .agg #[.int .i64 b.I.rows, .int .i64 b.I.cols, .slice a n cap, .int .i64 b.W.rows, .int .i64 b.W.cols, .slice a' n' cap'] ∧ IntsAt w a n cap p o b.I.cells ∧ IntsAt w a' n' cap' p' o' b.W.cells
theorem bat_reads {w : World} {F : Nat → Prop} {cs : List Value} {d : Bat} (h : Form.bat.reads w F cs d) :
    ∃ a n cap b o a' n' cap' b' o', cs = [.int .i64 d.I.rows, .int .i64 d.I.cols, .slice a n cap, .int .i64 d.W.rows, .int .i64 d.W.cols, .slice a' n' cap'] ∧ (0 < n → F b) ∧ IntsAt w a n cap b o d.I.cells ∧ (0 < n' → F b') ∧ IntsAt w a' n' cap' b' o' d.W.cells := by
  obtain ⟨⟨W, B⟩, ⟨c1, d1, rfl, ⟨a, n, cap, b, o, rfl, hF, x0⟩, ⟨a', n', cap', b', o', rfl, hF', x1⟩⟩, rfl⟩ := h
  exact ⟨a, n, cap, b, o, a', n', cap', b', o', rfl, hF, x0, hF', x1⟩
theorem reads_bat {w : World} {F : Nat → Prop} {d : Bat} {a a' : Option Addr} {n n' cap cap' b b' o o' : Nat} (hF : 0 < n → F b) (x0 : IntsAt w a n cap b o d.I.cells) (hF' : 0 < n' → F b') (x1 : IntsAt w a' n' cap' b' o' d.W.cells) :
    Form.bat.reads w F [.int .i64 d.I.rows, .int .i64 d.I.cols, .slice a n cap, .int .i64 d.W.rows, .int .i64 d.W.cols, .slice a' n' cap'] d :=
  ⟨(d.I, d.W), ⟨_, _, rfl, ⟨a, n, cap, b, o, rfl, hF, x0⟩, ⟨a', n', cap', b', o', rfl, hF', x1⟩⟩, rfl⟩
end Gal
namespace Go.Proofs.YtikcdjibflleeaaDoor
open Go.RowKit Gal
set_option maxRecDepth 100000
set_option maxHeartbeats 2000000
theorem batchCheck_any (d : Bat) (v : Value) (w : World) (h : BatAt w v d) : Calls Tryd.prog 32 #[v] w fun e w' => e = .returned (errV d.fault) ∧ Below w.heap.size w w' := by
  obtain ⟨a, n, k, b, o, a', n', k', b', o', rfl, x0, x1⟩ := h
  by_cases h1 : d.I.fault = 0
  · have HE1 : Hid (errV (matFault d.I.rows d.I.cols d.I.cells) = .nilIface) := Lib.hid (errV_nil h1)
    by_cases h2 : d.W.fault = 0
    · have HE2 : Hid (errV (matFault d.W.rows d.W.cols d.W.cells) = .nilIface) := Lib.hid (errV_nil h2)
      have HF : Hid (d.fault = if d.I.rows ≠ d.W.rows ∨ d.I.rows < 1 then 2 else 0) := Lib.hid (by unfold Bat.fault; rw [if_neg (by simp [h1]), if_neg (by simp [h2])])
      clear h1 h2
      rw [HF.out]
      by_cases h3 : d.I.rows = d.W.rows
      · have q3 : (d.I.rows != d.W.rows) = false := by simp [h3]
        by_cases h4 : d.I.rows < 1
        · rw [if_pos (Or.inr h4), errV_err (by decide)]
          clear h3
          go_enter Tryd.func32, Tryd.ntmps32
          go_wp2_with fail
          refine (matCheck_any _ _ _ _ _ _ _ d.I.cells _ (x0.alloc _)).mono ?_
          rw [HE1.out]
          rintro e w1 ⟨rfl, hb1⟩
          have B1 := ((show Box _ w.heap.size [.int .i64 d.I.rows, .int .i64 d.I.cols, .slice a n k, .int .i64 d.W.rows, .int .i64 d.W.cols, .slice a' n' k'] 50 from (by repeat (first | fail | (with_reducible refine (Box.new' _ w.heap.size _ _ ?_); (simp; done)) | (with_reducible refine Box.alloc ?_ _) | (with_reducible refine Box.drewN ?_ _) | (with_reducible refine Box.drew ?_) | (with_reducible refine Box.far ?_ ?_ _; rotate_left 1; (first | (dsimp only; omega) | omega | (simp; omega) | simp)))))).keep hb1
          have B1c := B1.cell
          have B1f := B1.thawed
          have B1z := B1.lt
          have B1k := lt_add B1z
          have hkw1 : Below w.heap.size w w1 := (by repeat (first | fail | (with_reducible exact Below.refl _ _) | (with_reducible refine Below.al ?_ _) | (with_reducible refine Below.drN ?_ _) | (with_reducible refine Below.drew ?_) | (with_reducible refine Below.st ?_ ?_ _; rotate_left 1; (first | (dsimp only; omega) | omega | (simp; omega) | simp)) | (with_reducible refine Below.go ?_ hb1) | exact Below.refl _ _))
          replace x1 := x1.keep hkw1
          have hsw1 := hkw1.size
          go_wp2_with fail
          refine (matCheck_any _ _ _ _ _ _ _ d.W.cells _ x1).mono ?_
          rw [HE2.out]
          rintro e w2 ⟨rfl, hb2⟩
          have hkw2 : Below w1.heap.size w1 w2 := (by repeat (first | fail | (with_reducible exact Below.refl _ _) | (with_reducible refine Below.al ?_ _) | (with_reducible refine Below.drN ?_ _) | (with_reducible refine Below.drew ?_) | (with_reducible refine Below.st ?_ ?_ _; rotate_left 1; (first | (dsimp only; omega) | omega | (simp; omega) | simp)) | (with_reducible refine Below.go ?_ hb2) | exact Below.refl _ _))
          replace B1 := B1.keep hkw2
          replace B1c := B1.cell
          replace B1f := B1.thawed
          replace B1z := B1.lt
          replace B1k := lt_add B1z
          have hsw2 := hkw2.size
          go_wp2
          go_ret
          exact ⟨rfl, (by repeat (first | fail | (with_reducible exact Below.refl _ _) | (with_reducible refine Below.al ?_ _) | (with_reducible refine Below.drN ?_ _) | (with_reducible refine Below.drew ?_) | (with_reducible refine Below.st ?_ ?_ _; rotate_left 1; (first | (dsimp only; omega) | omega | (simp; omega) | simp)) | (with_reducible refine Below.go ?_ hb2) | (with_reducible refine Below.go ?_ hb1) | exact Below.refl _ _))⟩
        · rw [if_neg (by rintro (q | q); exact q h3; exact h4 q), errV_nil rfl]
          clear h3
          go_enter Tryd.func32, Tryd.ntmps32
          go_wp2_with fail
          refine (matCheck_any _ _ _ _ _ _ _ d.I.cells _ (x0.alloc _)).mono ?_
          rw [HE1.out]
          rintro e w1 ⟨rfl, hb1⟩
          have B1 := ((show Box _ w.heap.size [.int .i64 d.I.rows, .int .i64 d.I.cols, .slice a n k, .int .i64 d.W.rows, .int .i64 d.W.cols, .slice a' n' k'] 50 from (by repeat (first | fail | (with_reducible refine (Box.new' _ w.heap.size _ _ ?_); (simp; done)) | (with_reducible refine Box.alloc ?_ _) | (with_reducible refine Box.drewN ?_ _) | (with_reducible refine Box.drew ?_) | (with_reducible refine Box.far ?_ ?_ _; rotate_left 1; (first | (dsimp only; omega) | omega | (simp; omega) | simp)))))).keep hb1
          have B1c := B1.cell
          have B1f := B1.thawed
          have B1z := B1.lt
          have B1k := lt_add B1z
          have hkw1 : Below w.heap.size w w1 := (by repeat (first | fail | (with_reducible exact Below.refl _ _) | (with_reducible refine Below.al ?_ _) | (with_reducible refine Below.drN ?_ _) | (with_reducible refine Below.drew ?_) | (with_reducible refine Below.st ?_ ?_ _; rotate_left 1; (first | (dsimp only; omega) | omega | (simp; omega) | simp)) | (with_reducible refine Below.go ?_ hb1) | exact Below.refl _ _))
          replace x1 := x1.keep hkw1
          have hsw1 := hkw1.size
          go_wp2_with fail
          refine (matCheck_any _ _ _ _ _ _ _ d.W.cells _ x1).mono ?_
          rw [HE2.out]
          rintro e w2 ⟨rfl, hb2⟩
          have hkw2 : Below w1.heap.size w1 w2 := (by repeat (first | fail | (with_reducible exact Below.refl _ _) | (with_reducible refine Below.al ?_ _) | (with_reducible refine Below.drN ?_ _) | (with_reducible refine Below.drew ?_) | (with_reducible refine Below.st ?_ ?_ _; rotate_left 1; (first | (dsimp only; omega) | omega | (simp; omega) | simp)) | (with_reducible refine Below.go ?_ hb2) | exact Below.refl _ _))
          replace B1 := B1.keep hkw2
          replace B1c := B1.cell
          replace B1f := B1.thawed
          replace B1z := B1.lt
          replace B1k := lt_add B1z
          have hsw2 := hkw2.size
          go_wp2
          go_ret
          exact ⟨rfl, (by repeat (first | fail | (with_reducible exact Below.refl _ _) | (with_reducible refine Below.al ?_ _) | (with_reducible refine Below.drN ?_ _) | (with_reducible refine Below.drew ?_) | (with_reducible refine Below.st ?_ ?_ _; rotate_left 1; (first | (dsimp only; omega) | omega | (simp; omega) | simp)) | (with_reducible refine Below.go ?_ hb2) | (with_reducible refine Below.go ?_ hb1) | exact Below.refl _ _))⟩
      · have q3 : (d.I.rows != d.W.rows) = true := by simp [h3]
        rw [if_pos (Or.inl h3), errV_err (by decide)]
        clear h3
        go_enter Tryd.func32, Tryd.ntmps32
        go_wp2_with fail
        refine (matCheck_any _ _ _ _ _ _ _ d.I.cells _ (x0.alloc _)).mono ?_
        rw [HE1.out]
        rintro e w1 ⟨rfl, hb1⟩
        have B1 := ((show Box _ w.heap.size [.int .i64 d.I.rows, .int .i64 d.I.cols, .slice a n k, .int .i64 d.W.rows, .int .i64 d.W.cols, .slice a' n' k'] 50 from (by repeat (first | fail | (with_reducible refine (Box.new' _ w.heap.size _ _ ?_); (simp; done)) | (with_reducible refine Box.alloc ?_ _) | (with_reducible refine Box.drewN ?_ _) | (with_reducible refine Box.drew ?_) | (with_reducible refine Box.far ?_ ?_ _; rotate_left 1; (first | (dsimp only; omega) | omega | (simp; omega) | simp)))))).keep hb1
        have B1c := B1.cell
        have B1f := B1.thawed
        have B1z := B1.lt
        have B1k := lt_add B1z
        have hkw1 : Below w.heap.size w w1 := (by repeat (first | fail | (with_reducible exact Below.refl _ _) | (with_reducible refine Below.al ?_ _) | (with_reducible refine Below.drN ?_ _) | (with_reducible refine Below.drew ?_) | (with_reducible refine Below.st ?_ ?_ _; rotate_left 1; (first | (dsimp only; omega) | omega | (simp; omega) | simp)) | (with_reducible refine Below.go ?_ hb1) | exact Below.refl _ _))
        replace x1 := x1.keep hkw1
        have hsw1 := hkw1.size
        go_wp2_with fail
        refine (matCheck_any _ _ _ _ _ _ _ d.W.cells _ x1).mono ?_
        rw [HE2.out]
        rintro e w2 ⟨rfl, hb2⟩
        have hkw2 : Below w1.heap.size w1 w2 := (by repeat (first | fail | (with_reducible exact Below.refl _ _) | (with_reducible refine Below.al ?_ _) | (with_reducible refine Below.drN ?_ _) | (with_reducible refine Below.drew ?_) | (with_reducible refine Below.st ?_ ?_ _; rotate_left 1; (first | (dsimp only; omega) | omega | (simp; omega) | simp)) | (with_reducible refine Below.go ?_ hb2) | exact Below.refl _ _))
        replace B1 := B1.keep hkw2
        replace B1c := B1.cell
        replace B1f := B1.thawed
        replace B1z := B1.lt
        replace B1k := lt_add B1z
        have hsw2 := hkw2.size
        go_wp2
        go_ret
        exact ⟨rfl, (by repeat (first | fail | (with_reducible exact Below.refl _ _) | (with_reducible refine Below.al ?_ _) | (with_reducible refine Below.drN ?_ _) | (with_reducible refine Below.drew ?_) | (with_reducible refine Below.st ?_ ?_ _; rotate_left 1; (first | (dsimp only; omega) | omega | (simp; omega) | simp)) | (with_reducible refine Below.go ?_ hb2) | (with_reducible refine Below.go ?_ hb1) | exact Below.refl _ _))⟩
    · have HE2 : Hid (errV (matFault d.W.rows d.W.cols d.W.cells) = .iface 30 (.int .i64 d.W.fault)) := Lib.hid (errV_err h2)
      have HF : Hid (errV d.fault = .iface 30 (.int .i64 d.W.fault)) := Lib.hid (by unfold Bat.fault; rw [if_neg (by simp [h1]), if_pos h2]; exact errV_err h2)
      clear h1 h2
      rw [HF.out]
      go_enter Tryd.func32, Tryd.ntmps32
      go_wp2_with fail
      refine (matCheck_any _ _ _ _ _ _ _ d.I.cells _ (x0.alloc _)).mono ?_
      rw [HE1.out]
      rintro e w1 ⟨rfl, hb1⟩
      have B1 := ((show Box _ w.heap.size [.int .i64 d.I.rows, .int .i64 d.I.cols, .slice a n k, .int .i64 d.W.rows, .int .i64 d.W.cols, .slice a' n' k'] 50 from (by repeat (first | fail | (with_reducible refine (Box.new' _ w.heap.size _ _ ?_); (simp; done)) | (with_reducible refine Box.alloc ?_ _) | (with_reducible refine Box.drewN ?_ _) | (with_reducible refine Box.drew ?_) | (with_reducible refine Box.far ?_ ?_ _; rotate_left 1; (first | (dsimp only; omega) | omega | (simp; omega) | simp)))))).keep hb1
      have B1c := B1.cell
      have B1f := B1.thawed
      have B1z := B1.lt
      have B1k := lt_add B1z
      have hkw1 : Below w.heap.size w w1 := (by repeat (first | fail | (with_reducible exact Below.refl _ _) | (with_reducible refine Below.al ?_ _) | (with_reducible refine Below.drN ?_ _) | (with_reducible refine Below.drew ?_) | (with_reducible refine Below.st ?_ ?_ _; rotate_left 1; (first | (dsimp only; omega) | omega | (simp; omega) | simp)) | (with_reducible refine Below.go ?_ hb1) | exact Below.refl _ _))
      replace x1 := x1.keep hkw1
      have hsw1 := hkw1.size
      go_wp2_with fail
      refine (matCheck_any _ _ _ _ _ _ _ d.W.cells _ x1).mono ?_
      rw [HE2.out]
      rintro e w2 ⟨rfl, hb2⟩
      go_wp2
      go_ret
      exact ⟨rfl, (by repeat (first | fail | (with_reducible exact Below.refl _ _) | (with_reducible refine Below.al ?_ _) | (with_reducible refine Below.drN ?_ _) | (with_reducible refine Below.drew ?_) | (with_reducible refine Below.st ?_ ?_ _; rotate_left 1; (first | (dsimp only; omega) | omega | (simp; omega) | simp)) | (with_reducible refine Below.go ?_ hb2) | (with_reducible refine Below.go ?_ hb1) | exact Below.refl _ _))⟩
  · have HE1 : Hid (errV (matFault d.I.rows d.I.cols d.I.cells) = .iface 30 (.int .i64 d.I.fault)) := Lib.hid (errV_err h1)
    have HF : Hid (errV d.fault = .iface 30 (.int .i64 d.I.fault)) := Lib.hid (by unfold Bat.fault; rw [if_pos h1]; exact errV_err h1)
    clear h1
    rw [HF.out]
    go_enter Tryd.func32, Tryd.ntmps32
    go_wp2_with fail
    refine (matCheck_any _ _ _ _ _ _ _ d.I.cells _ (x0.alloc _)).mono ?_
    rw [HE1.out]
    rintro e w1 ⟨rfl, hb1⟩
    go_wp2
    go_ret
    exact ⟨rfl, (by repeat (first | fail | (with_reducible exact Below.refl _ _) | (with_reducible refine Below.al ?_ _) | (with_reducible refine Below.drN ?_ _) | (with_reducible refine Below.drew ?_) | (with_reducible refine Below.st ?_ ?_ _; rotate_left 1; (first | (dsimp only; omega) | omega | (simp; omega) | simp)) | (with_reducible refine Below.go ?_ hb1) | exact Below.refl _ _))⟩
end Go.Proofs.YtikcdjibflleeaaDoor
