/- Contracts of the reference: BatchFault, SizesOf. -/
import Derived.Test.YtikcdjibflleeaaDoorBatch2
import Derived.Test.YtikcdjibflleeaaDoorBlank
import Derived.Test.YtikcdjibflleeaaDoorRef1
set_option linter.unusedVariables false
set_option linter.unusedSimpArgs false
set_option linter.unusedSectionVars false
namespace Gal
/-- how many of the first i numbers leave j, parted by P -/
def cntTo (P : Nat) : Nat → Nat → Int
  | 0, _ => 0
  | i + 1, j => if j = i % P then cntTo P i j + 1 else cntTo P i j
theorem cnt_zero (P : Nat) : upto (cntTo P 0) P = zeros P := by rw [zeros_upto]; rfl
theorem cnt_set {P i : Nat} (h : 0 < P) : (upto (cntTo P i) P).set (i % P) (cntTo P i (i % P) + 1) = upto (cntTo P (i + 1)) P := by
  rw [upto_set (Nat.mod_lt i h)]
  exact upto_congr fun q _ => by
    show (if q = i % P then _ else _) = (if q = i % P then _ else _)
    by_cases e : q = i % P
    · rw [if_pos e, if_pos e, e]
    · rw [if_neg e, if_neg e]
theorem cnt_bd (P : Nat) : ∀ i j, 0 ≤ cntTo P i j ∧ cntTo P i j ≤ i
  | 0, j => by simp [cntTo]
  | i + 1, j => by
    have := cnt_bd P i j
    unfold cntTo
    by_cases e : j = i % P
    · rw [if_pos e]; omega
    · rw [if_neg e]; omega
theorem cnt_all : ∀ R, R < 25 → ∀ P, P < 13 → 1 ≤ P → P ≤ R → upto (cntTo P R) P = ints (sizesOf R P) := by decide +kernel
end Gal
namespace Go.Proofs.YtikcdjibflleeaaDoor
open Go.RowKit Gal
set_option maxRecDepth 100000
set_option maxHeartbeats 2000000
theorem refBatchFault_any (d : Bat) (v : Value) (w : World) (h : BatAt w v d) : Calls Tryd.prog 17 #[v] w fun e w' => e = .returned (.int .i64 d.fault) ∧ Below w.heap.size w w' := by
  obtain ⟨a, n, k, b, o, a', n', k', b', o', rfl, x0, x1⟩ := h
  by_cases h1 : d.I.fault = 0
  · have hrn : 0 ≤ d.I.rows := (fault_bd h1).1
    have H1 := Lib.hid h1
    by_cases h2 : d.W.fault = 0
    · have H2 := Lib.hid h2
      have HF : Hid (d.fault = if d.I.rows ≠ d.W.rows ∨ d.I.rows < 1 then 2 else 0) := Lib.hid (by unfold Bat.fault; rw [if_neg (by simp [h1]), if_neg (by simp [h2])])
      clear h1 h2
      rw [HF.out]
      by_cases h3 : d.I.rows = d.W.rows
      · have q3 : (d.I.rows != d.W.rows) = false := by simp [h3]
        by_cases h4 : d.I.rows < 1
        · have q4 : (d.I.rows == 0) = true := by simp; omega
          rw [if_pos (Or.inr h4)]
          clear h3 h4
          go_enter Tryd.func17, Tryd.ntmps17
          go_wp2_with fail
          refine (refMatFault_any d.I _ _ (MatAt.mk (x0.alloc _))).mono ?_
          rw [H1.out]
          rintro e w1 ⟨rfl, hb1⟩
          have B1 := ((show Box _ w.heap.size [.int .i64 d.I.rows, .int .i64 d.I.cols, .slice a n k, .int .i64 d.W.rows, .int .i64 d.W.cols, .slice a' n' k'] 50 from (by repeat (first | fail | (with_reducible refine (Box.new' _ w.heap.size _ _ ?_); (simp; done)) | (with_reducible refine Box.alloc ?_ _) | (with_reducible refine Box.drewN ?_ _) | (with_reducible refine Box.drew ?_) | (with_reducible refine Box.far ?_ ?_ _; rotate_left 1; (first | (dsimp only; omega) | omega | (simp; omega) | simp)))))).keep hb1
          have B1c := B1.cell
          have B1f := B1.thawed
          have B1z := B1.lt
          have B1k := lt_add B1z
          have hkw1 : Below w.heap.size w w1 := (by repeat (first | fail | (with_reducible exact Below.refl _ _) | (with_reducible refine Below.al ?_ _) | (with_reducible refine Below.drN ?_ _) | (with_reducible refine Below.drew ?_) | (with_reducible refine Below.st ?_ ?_ _; rotate_left 1; (first | (dsimp only; omega) | omega | (simp; omega) | simp)) | (with_reducible refine Below.go ?_ hb1) | exact Below.refl _ _))
          replace x1 := x1.keep hkw1
          have hsw1 := hkw1.size
          go_wp2_with fail
          refine (refMatFault_any d.W _ _ (MatAt.mk x1)).mono ?_
          rw [H2.out]
          rintro e w2 ⟨rfl, hb2⟩
          have hkw2 : Below w1.heap.size w1 w2 := (by repeat (first | fail | (with_reducible exact Below.refl _ _) | (with_reducible refine Below.al ?_ _) | (with_reducible refine Below.drN ?_ _) | (with_reducible refine Below.drew ?_) | (with_reducible refine Below.st ?_ ?_ _; rotate_left 1; (first | (dsimp only; omega) | omega | (simp; omega) | simp)) | (with_reducible refine Below.go ?_ hb2) | exact Below.refl _ _))
          replace B1 := B1.keep hkw2
          replace B1c := B1.cell
          replace B1f := B1.thawed
          replace B1z := B1.lt
          replace B1k := lt_add B1z
          have hsw2 := hkw2.size
          go_wp2
          go_ret
          exact ⟨rfl, (by repeat (first | fail | (with_reducible exact Below.refl _ _) | (with_reducible refine Below.al ?_ _) | (with_reducible refine Below.drN ?_ _) | (with_reducible refine Below.drew ?_) | (with_reducible refine Below.st ?_ ?_ _; rotate_left 1; (first | (dsimp only; omega) | omega | (simp; omega) | simp)) | (with_reducible refine Below.go ?_ hb2) | (with_reducible refine Below.go ?_ hb1) | exact Below.refl _ _))⟩
        · have q4 : (d.I.rows == 0) = false := by simp; omega
          rw [if_neg (by rintro (q | q); exact q h3; exact h4 q)]
          clear h3 h4
          go_enter Tryd.func17, Tryd.ntmps17
          go_wp2_with fail
          refine (refMatFault_any d.I _ _ (MatAt.mk (x0.alloc _))).mono ?_
          rw [H1.out]
          rintro e w1 ⟨rfl, hb1⟩
          have B1 := ((show Box _ w.heap.size [.int .i64 d.I.rows, .int .i64 d.I.cols, .slice a n k, .int .i64 d.W.rows, .int .i64 d.W.cols, .slice a' n' k'] 50 from (by repeat (first | fail | (with_reducible refine (Box.new' _ w.heap.size _ _ ?_); (simp; done)) | (with_reducible refine Box.alloc ?_ _) | (with_reducible refine Box.drewN ?_ _) | (with_reducible refine Box.drew ?_) | (with_reducible refine Box.far ?_ ?_ _; rotate_left 1; (first | (dsimp only; omega) | omega | (simp; omega) | simp)))))).keep hb1
          have B1c := B1.cell
          have B1f := B1.thawed
          have B1z := B1.lt
          have B1k := lt_add B1z
          have hkw1 : Below w.heap.size w w1 := (by repeat (first | fail | (with_reducible exact Below.refl _ _) | (with_reducible refine Below.al ?_ _) | (with_reducible refine Below.drN ?_ _) | (with_reducible refine Below.drew ?_) | (with_reducible refine Below.st ?_ ?_ _; rotate_left 1; (first | (dsimp only; omega) | omega | (simp; omega) | simp)) | (with_reducible refine Below.go ?_ hb1) | exact Below.refl _ _))
          replace x1 := x1.keep hkw1
          have hsw1 := hkw1.size
          go_wp2_with fail
          refine (refMatFault_any d.W _ _ (MatAt.mk x1)).mono ?_
          rw [H2.out]
          rintro e w2 ⟨rfl, hb2⟩
          have hkw2 : Below w1.heap.size w1 w2 := (by repeat (first | fail | (with_reducible exact Below.refl _ _) | (with_reducible refine Below.al ?_ _) | (with_reducible refine Below.drN ?_ _) | (with_reducible refine Below.drew ?_) | (with_reducible refine Below.st ?_ ?_ _; rotate_left 1; (first | (dsimp only; omega) | omega | (simp; omega) | simp)) | (with_reducible refine Below.go ?_ hb2) | exact Below.refl _ _))
          replace B1 := B1.keep hkw2
          replace B1c := B1.cell
          replace B1f := B1.thawed
          replace B1z := B1.lt
          replace B1k := lt_add B1z
          have hsw2 := hkw2.size
          go_wp2
          go_ret
          exact ⟨rfl, (by repeat (first | fail | (with_reducible exact Below.refl _ _) | (with_reducible refine Below.al ?_ _) | (with_reducible refine Below.drN ?_ _) | (with_reducible refine Below.drew ?_) | (with_reducible refine Below.st ?_ ?_ _; rotate_left 1; (first | (dsimp only; omega) | omega | (simp; omega) | simp)) | (with_reducible refine Below.go ?_ hb2) | (with_reducible refine Below.go ?_ hb1) | exact Below.refl _ _))⟩
      · have q3 : (d.I.rows != d.W.rows) = true := by simp [h3]
        rw [if_pos (Or.inl h3)]
        clear h3
        go_enter Tryd.func17, Tryd.ntmps17
        go_wp2_with fail
        refine (refMatFault_any d.I _ _ (MatAt.mk (x0.alloc _))).mono ?_
        rw [H1.out]
        rintro e w1 ⟨rfl, hb1⟩
        have B1 := ((show Box _ w.heap.size [.int .i64 d.I.rows, .int .i64 d.I.cols, .slice a n k, .int .i64 d.W.rows, .int .i64 d.W.cols, .slice a' n' k'] 50 from (by repeat (first | fail | (with_reducible refine (Box.new' _ w.heap.size _ _ ?_); (simp; done)) | (with_reducible refine Box.alloc ?_ _) | (with_reducible refine Box.drewN ?_ _) | (with_reducible refine Box.drew ?_) | (with_reducible refine Box.far ?_ ?_ _; rotate_left 1; (first | (dsimp only; omega) | omega | (simp; omega) | simp)))))).keep hb1
        have B1c := B1.cell
        have B1f := B1.thawed
        have B1z := B1.lt
        have B1k := lt_add B1z
        have hkw1 : Below w.heap.size w w1 := (by repeat (first | fail | (with_reducible exact Below.refl _ _) | (with_reducible refine Below.al ?_ _) | (with_reducible refine Below.drN ?_ _) | (with_reducible refine Below.drew ?_) | (with_reducible refine Below.st ?_ ?_ _; rotate_left 1; (first | (dsimp only; omega) | omega | (simp; omega) | simp)) | (with_reducible refine Below.go ?_ hb1) | exact Below.refl _ _))
        replace x1 := x1.keep hkw1
        have hsw1 := hkw1.size
        go_wp2_with fail
        refine (refMatFault_any d.W _ _ (MatAt.mk x1)).mono ?_
        rw [H2.out]
        rintro e w2 ⟨rfl, hb2⟩
        have hkw2 : Below w1.heap.size w1 w2 := (by repeat (first | fail | (with_reducible exact Below.refl _ _) | (with_reducible refine Below.al ?_ _) | (with_reducible refine Below.drN ?_ _) | (with_reducible refine Below.drew ?_) | (with_reducible refine Below.st ?_ ?_ _; rotate_left 1; (first | (dsimp only; omega) | omega | (simp; omega) | simp)) | (with_reducible refine Below.go ?_ hb2) | exact Below.refl _ _))
        replace B1 := B1.keep hkw2
        replace B1c := B1.cell
        replace B1f := B1.thawed
        replace B1z := B1.lt
        replace B1k := lt_add B1z
        have hsw2 := hkw2.size
        go_wp2
        go_ret
        exact ⟨rfl, (by repeat (first | fail | (with_reducible exact Below.refl _ _) | (with_reducible refine Below.al ?_ _) | (with_reducible refine Below.drN ?_ _) | (with_reducible refine Below.drew ?_) | (with_reducible refine Below.st ?_ ?_ _; rotate_left 1; (first | (dsimp only; omega) | omega | (simp; omega) | simp)) | (with_reducible refine Below.go ?_ hb2) | (with_reducible refine Below.go ?_ hb1) | exact Below.refl _ _))⟩
    · have HF : Hid (d.fault = d.W.fault) := Lib.hid (by unfold Bat.fault; rw [if_neg (by simp [h1]), if_pos h2])
      have q : (d.W.fault == 0) = false := by simp [h2]
      clear h1 h2
      rw [HF.out]
      go_enter Tryd.func17, Tryd.ntmps17
      go_wp2_with fail
      refine (refMatFault_any d.I _ _ (MatAt.mk (x0.alloc _))).mono ?_
      rw [H1.out]
      rintro e w1 ⟨rfl, hb1⟩
      have B1 := ((show Box _ w.heap.size [.int .i64 d.I.rows, .int .i64 d.I.cols, .slice a n k, .int .i64 d.W.rows, .int .i64 d.W.cols, .slice a' n' k'] 50 from (by repeat (first | fail | (with_reducible refine (Box.new' _ w.heap.size _ _ ?_); (simp; done)) | (with_reducible refine Box.alloc ?_ _) | (with_reducible refine Box.drewN ?_ _) | (with_reducible refine Box.drew ?_) | (with_reducible refine Box.far ?_ ?_ _; rotate_left 1; (first | (dsimp only; omega) | omega | (simp; omega) | simp)))))).keep hb1
      have B1c := B1.cell
      have B1f := B1.thawed
      have B1z := B1.lt
      have B1k := lt_add B1z
      have hkw1 : Below w.heap.size w w1 := (by repeat (first | fail | (with_reducible exact Below.refl _ _) | (with_reducible refine Below.al ?_ _) | (with_reducible refine Below.drN ?_ _) | (with_reducible refine Below.drew ?_) | (with_reducible refine Below.st ?_ ?_ _; rotate_left 1; (first | (dsimp only; omega) | omega | (simp; omega) | simp)) | (with_reducible refine Below.go ?_ hb1) | exact Below.refl _ _))
      replace x1 := x1.keep hkw1
      have hsw1 := hkw1.size
      go_wp2_with fail
      refine (refMatFault_any d.W _ _ (MatAt.mk x1)).mono ?_
      rintro e w2 ⟨rfl, hb2⟩
      go_wp2
      go_ret
      exact ⟨rfl, (by repeat (first | fail | (with_reducible exact Below.refl _ _) | (with_reducible refine Below.al ?_ _) | (with_reducible refine Below.drN ?_ _) | (with_reducible refine Below.drew ?_) | (with_reducible refine Below.st ?_ ?_ _; rotate_left 1; (first | (dsimp only; omega) | omega | (simp; omega) | simp)) | (with_reducible refine Below.go ?_ hb2) | (with_reducible refine Below.go ?_ hb1) | exact Below.refl _ _))⟩
  · have HF : Hid (d.fault = d.I.fault) := Lib.hid (by unfold Bat.fault; rw [if_pos h1])
    have q : (d.I.fault == 0) = false := by simp [h1]
    clear h1
    rw [HF.out]
    go_enter Tryd.func17, Tryd.ntmps17
    go_wp2_with fail
    refine (refMatFault_any d.I _ _ (MatAt.mk (x0.alloc _))).mono ?_
    rintro e w1 ⟨rfl, hb1⟩
    go_wp2
    go_ret
    exact ⟨rfl, (by repeat (first | fail | (with_reducible exact Below.refl _ _) | (with_reducible refine Below.al ?_ _) | (with_reducible refine Below.drN ?_ _) | (with_reducible refine Below.drew ?_) | (with_reducible refine Below.st ?_ ?_ _; rotate_left 1; (first | (dsimp only; omega) | omega | (simp; omega) | simp)) | (with_reducible refine Below.go ?_ hb1) | exact Below.refl _ _))⟩
end Go.Proofs.YtikcdjibflleeaaDoor
