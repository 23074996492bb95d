/- Texts joined: RBatch1. -/
import Derived.Test.YtgknjikjjklaiaaGreatDoorJ11
import Derived.Test.YtgknjikjjklaiaaGreatDoorJ13
import Derived.Test.YtgknjikjjklaiaaGreatDoorJ12
section
set_option linter.unusedVariables false
set_option linter.unusedSimpArgs false
set_option linter.unusedSectionVars false
namespace Gal
def cntTo (P : Nat) : Nat → Nat → Int
 | 0, _ => 0
 | i + 1, j => if j = i % P then cntTo P i j + 1 else cntTo P i j
theorem cnt_zero (P : Nat) : upto (cntTo P 0) P = zeros P := by rw [zeros_upto]; rfl
theorem cnt_set {P i : Nat} (h : 0 < P) : (upto (cntTo P i) P).set (i % P) (cntTo P i (i % P) + 1) = upto (cntTo P (i + 1)) P := by
 rw [upto_set (Nat.mod_lt i h)]
 exact upto_congr fun q _ => by
  show (if q = i % P then _ else _) = (if q = i % P then _ else _)
  by_cases e : q = i % P
  ·rw [if_pos e, if_pos e, e]
  ·rw [if_neg e, if_neg e]
theorem cnt_bd (P : Nat) : ∀ i j, 0 ≤ cntTo P i j ∧ cntTo P i j ≤ i
 | 0, j => by simp [cntTo]
 | i + 1, j => by
  have := cnt_bd P i j
  unfold cntTo
  by_cases e : j = i % P
  ·rw [if_pos e]; omega
  ·rw [if_neg e]; omega
theorem cnt_all : ∀ R, R < 25 → ∀ P, P < 13 → 1 ≤ P → P ≤ R → upto (cntTo P R) P = ints (sizesOf R P) := by decide +kernel
end Gal
namespace Go.Proofs.YtgknjikjjklaiaaGreatDoor
open Go.RowKit Gal
set_option maxRecDepth 100000
set_option maxHeartbeats 2000000
theorem refBatchFault_any (d : Bat) (v : Value) (w : World) (h : BatAt w v d) : Calls Tryz.prog 100 #[v] w fun e w' => e = .returned (.int .i64 d.fault) ∧ Below w.heap.size w w' := by
 obtain ⟨a, n, k, b, o, a', n', k', b', o', rfl, x0, x1⟩ := h
 by_cases h1 : d.I.fault = 0
 ·have hrn : 0 ≤ d.I.rows := (fault_bd h1).1
  have H1 := Lib.hid h1
  by_cases h2 : d.W.fault = 0
  ·have H2 := Lib.hid h2
   have HF : Hid (d.fault = if d.I.rows ≠ d.W.rows ∨ d.I.rows < 1 then 2 else 0) := Lib.hid (by unfold Bat.fault; rw [if_neg (by simp [h1]), if_neg (by simp [h2])])
   clear h1 h2
   rw [HF.out]
   by_cases h3 : d.I.rows = d.W.rows
   ·have q3 : (d.I.rows != d.W.rows) = false := by simp [h3]
    by_cases h4 : d.I.rows < 1
    ·have q4 : (d.I.rows == 0) = true := by simp; omega
     rw [if_pos (Or.inr h4)]
     clear h3 h4
     go_enter Tryz.func100, Tryz.ntmps100
     go_wp2_with fail
     refine (refMatFault_any d.I _ _ (MatAt.mk (x0.alloc _))).mono ?_
     rw [H1.out]
     rintro e w1 ⟨rfl, hb1⟩
     have B1 := ((show Box _ w.heap.size [.int .i64 d.I.rows, .int .i64 d.I.cols, .slice a n k, .int .i64 d.W.rows, .int .i64 d.W.cols, .slice a' n' k'] 49 from Box.x0)).keep hb1
     have B1c := B1.cell
     have B1f := B1.thawed
     have B1z := B1.lt
     have B1k := lt_add B1z
     have hkw1 : Below w.heap.size w w1 := (Below.x1 hb1)
     replace x1 := x1.keep hkw1
     have hsw1 := hkw1.size
     go_wp2_with fail
     refine (refMatFault_any d.W _ _ (MatAt.mk x1)).mono ?_
     rw [H2.out]
     rintro e w2 ⟨rfl, hb2⟩
     have hkw2 : Below w1.heap.size w1 w2 := (Below.x1 hb2)
     replace B1 := B1.keep hkw2
     replace B1c := B1.cell
     replace B1f := B1.thawed
     replace B1z := B1.lt
     replace B1k := lt_add B1z
     have hsw2 := hkw2.size
     go_wp2
     go_ret
     exact ⟨rfl, (Below.x2 hb2 hb1)⟩
    ·have q4 : (d.I.rows == 0) = false := by simp; omega
     rw [if_neg (by rintro (q | q); exact q h3; exact h4 q)]
     clear h3 h4
     go_enter Tryz.func100, Tryz.ntmps100
     go_wp2_with fail
     refine (refMatFault_any d.I _ _ (MatAt.mk (x0.alloc _))).mono ?_
     rw [H1.out]
     rintro e w1 ⟨rfl, hb1⟩
     have B1 := ((show Box _ w.heap.size [.int .i64 d.I.rows, .int .i64 d.I.cols, .slice a n k, .int .i64 d.W.rows, .int .i64 d.W.cols, .slice a' n' k'] 49 from Box.x0)).keep hb1
     have B1c := B1.cell
     have B1f := B1.thawed
     have B1z := B1.lt
     have B1k := lt_add B1z
     have hkw1 : Below w.heap.size w w1 := (Below.x1 hb1)
     replace x1 := x1.keep hkw1
     have hsw1 := hkw1.size
     go_wp2_with fail
     refine (refMatFault_any d.W _ _ (MatAt.mk x1)).mono ?_
     rw [H2.out]
     rintro e w2 ⟨rfl, hb2⟩
     have hkw2 : Below w1.heap.size w1 w2 := (Below.x1 hb2)
     replace B1 := B1.keep hkw2
     replace B1c := B1.cell
     replace B1f := B1.thawed
     replace B1z := B1.lt
     replace B1k := lt_add B1z
     have hsw2 := hkw2.size
     go_wp2
     go_ret
     exact ⟨rfl, (Below.x2 hb2 hb1)⟩
   ·have q3 : (d.I.rows != d.W.rows) = true := by simp [h3]
    rw [if_pos (Or.inl h3)]
    clear h3
    go_enter Tryz.func100, Tryz.ntmps100
    go_wp2_with fail
    refine (refMatFault_any d.I _ _ (MatAt.mk (x0.alloc _))).mono ?_
    rw [H1.out]
    rintro e w1 ⟨rfl, hb1⟩
    have B1 := ((show Box _ w.heap.size [.int .i64 d.I.rows, .int .i64 d.I.cols, .slice a n k, .int .i64 d.W.rows, .int .i64 d.W.cols, .slice a' n' k'] 49 from Box.x0)).keep hb1
    have B1c := B1.cell
    have B1f := B1.thawed
    have B1z := B1.lt
    have B1k := lt_add B1z
    have hkw1 : Below w.heap.size w w1 := (Below.x1 hb1)
    replace x1 := x1.keep hkw1
    have hsw1 := hkw1.size
    go_wp2_with fail
    refine (refMatFault_any d.W _ _ (MatAt.mk x1)).mono ?_
    rw [H2.out]
    rintro e w2 ⟨rfl, hb2⟩
    have hkw2 : Below w1.heap.size w1 w2 := (Below.x1 hb2)
    replace B1 := B1.keep hkw2
    replace B1c := B1.cell
    replace B1f := B1.thawed
    replace B1z := B1.lt
    replace B1k := lt_add B1z
    have hsw2 := hkw2.size
    go_wp2
    go_ret
    exact ⟨rfl, (Below.x2 hb2 hb1)⟩
  ·have HF : Hid (d.fault = d.W.fault) := Lib.hid (by unfold Bat.fault; rw [if_neg (by simp [h1]), if_pos h2])
   have q : (d.W.fault == 0) = false := by simp [h2]
   clear h1 h2
   rw [HF.out]
   go_enter Tryz.func100, Tryz.ntmps100
   go_wp2_with fail
   refine (refMatFault_any d.I _ _ (MatAt.mk (x0.alloc _))).mono ?_
   rw [H1.out]
   rintro e w1 ⟨rfl, hb1⟩
   have B1 := ((show Box _ w.heap.size [.int .i64 d.I.rows, .int .i64 d.I.cols, .slice a n k, .int .i64 d.W.rows, .int .i64 d.W.cols, .slice a' n' k'] 49 from Box.x0)).keep hb1
   have B1c := B1.cell
   have B1f := B1.thawed
   have B1z := B1.lt
   have B1k := lt_add B1z
   have hkw1 : Below w.heap.size w w1 := (Below.x1 hb1)
   replace x1 := x1.keep hkw1
   have hsw1 := hkw1.size
   go_wp2_with fail
   refine (refMatFault_any d.W _ _ (MatAt.mk x1)).mono ?_
   rintro e w2 ⟨rfl, hb2⟩
   go_wp2
   go_ret
   exact ⟨rfl, (Below.x2 hb2 hb1)⟩
 ·have HF : Hid (d.fault = d.I.fault) := Lib.hid (by unfold Bat.fault; rw [if_pos h1])
  have q : (d.I.fault == 0) = false := by simp [h1]
  clear h1
  rw [HF.out]
  go_enter Tryz.func100, Tryz.ntmps100
  go_wp2_with fail
  refine (refMatFault_any d.I _ _ (MatAt.mk (x0.alloc _))).mono ?_
  rintro e w1 ⟨rfl, hb1⟩
  go_wp2
  go_ret
  exact ⟨rfl, (Below.x1 hb1)⟩
theorem refSizes_bad (r p : Int) (w : World) (hf : sizesFault r p ≠ 0) :
  Calls Tryz.prog 101 #[.int .i64 r, .int .i64 p] w fun e w' => e = .returned (.tuple #[.slice none 0 0, .int .i64 (sizesFault r p)]) ∧ w = w' := by
 by_cases h1 : r < 1 ∨ 24 < r ∨ p < 1 ∨ 12 < p
 ·have h0 : sizesFault r p = 1 := if_pos h1
  rw [h0]
  clear hf h0
  go_enter Tryz.func101, Tryz.ntmps101
  by_cases q1 : r < 1
  ·go_wp2
   go_ret2
   exact ⟨rfl, rfl⟩
  ·by_cases q2 : 24 < r
   ·go_wp2
    go_ret2
    exact ⟨rfl, rfl⟩
   ·by_cases q3 : p < 1
    ·go_wp2
     go_ret2
     exact ⟨rfl, rfl⟩
    ·have q4 : 12 < p := by omega
     go_wp2
     go_ret2
     exact ⟨rfl, rfl⟩
 ·have h2 : r < p := by
   rcases Int.lt_or_le r p with h | h
   ·exact h
   ·exact absurd (show sizesFault r p = 0 by unfold sizesFault; rw [if_neg h1, if_neg (by omega)]) hf
  have h0 : sizesFault r p = 2 := by unfold sizesFault; rw [if_neg h1, if_pos h2]
  rw [h0]
  have q1 : ¬ r < 1 := by omega
  have q2 : ¬ 24 < r := by omega
  have q3 : ¬ p < 1 := by omega
  have q4 : ¬ 12 < p := by omega
  clear hf h0 h1
  go_enter Tryz.func101, Tryz.ntmps101
  go_wp2
  go_ret2
  exact ⟨rfl, rfl⟩
theorem refSizes_ok (R P : Nat) (w : World) (hR : R ≤ 24) (hP : P ≤ 12) (h1 : 1 ≤ P) (hPR : P ≤ R) :
  Calls Tryz.prog 101 #[.int .i64 R, .int .i64 P] w fun e w' => ∃ b, e = .returned (.tuple #[.slice (some ⟨b, 0, none⟩) P P, .int .i64 0]) ∧
   w.heap.size ≤ b ∧ Box w' b ((ints (sizesOf R P)).map (Value.int .i64)) 3 ∧ Below w.heap.size w w' := by
 obtain ⟨i0, hi, hz0, hz1, hz2⟩ := info_parts info_int
 have hmk := fun W => run_make_rowN (P := Tryz.prog) 23 3 i0 _ Tryz.underlying23 hi hz0 .i64 .i64 P P (P : Int) (P : Int) rfl rfl (Nat.le_refl _) (by rw [hz2]; omega) (by omega) W
 rw [hz1, Nat.mul_one] at hmk
 have hmc : (madeCells (Value.int .i64 0).cells P) = ((zeros P).map (Value.int .i64)).toArray := by
  apply Array.toList_inj.1
  show (madeCells #[Value.int .i64 0] P).toList = _
  rw [toList_madeCells_one]
  simp [zeros]
 rw [hmc] at hmk
 clear hmc
 have HA := Lib.hid (cnt_all R (by omega) P (by omega) h1 hPR)
 have g1 : ¬ (R : Int) < 1 := by omega
 have g2 : ¬ 24 < (R : Int) := by omega
 have g3 : ¬ (P : Int) < 1 := by omega
 have g4 : ¬ 12 < (P : Int) := by omega
 have g5 : ¬ (R : Int) < (P : Int) := by omega
 have hKz : ((P : Int) == 0) = false := by simp; omega
 go_enter Tryz.func101, Tryz.ntmps101
 go_wp2
 go_loopw [7] (fun i wr => ∃ t : Nat, t ≤ R ∧ i = .int .i64 t ∧ Box wr w.heap.size ((upto (cntTo P t) P).map (Value.int .i64)) 3 ∧ Below w.heap.size w wr) (fun i _ => R - (intOf i).toNat)
 case atStart => exact ⟨0, Nat.zero_le _, rfl, by rw [cnt_zero]; exact Box.new _ _ _, Below.x0⟩
 case round =>
  obtain ⟨t, ht, rfl, Bc, hbr⟩ := hrel
  by_cases hlt : t < R
  ·have hm := Nat.mod_lt t (show 0 < P by omega)
   have cc := Bc.icell (k := t % P) (by rw [upto_length]; exact hm)
   rw [upto_ix hm] at cc
   have hcb := cnt_bd P t (t % P)
   obtain ⟨j, hj⟩ : ∃ j, t % P = j := ⟨_, rfl⟩
   have HJ := Lib.hid hj
   have HS := Lib.hid (cnt_set (P := P) (i := t) (by omega))
   rw [hj] at cc hm hcb
   have hmI : (t : Int) % (P : Int) = (j : Int) := by rw [← Int.natCast_emod, hj]
   have hmT : (t : Int).tmod (P : Int) = (j : Int) := by rw [Int.tmod_eq_emod_of_nonneg (by omega)]; exact hmI
   have cf := Bc.thawed j
   have hji : (j : Int) < (P : Int) := by omega
   obtain ⟨c, hc⟩ : ∃ c, cntTo P t j = c := ⟨_, rfl⟩
   have HC := Lib.hid hc
   rw [hc] at cc hcb
   clear hj hc
   go_wp2
   go_roundw
   case rel => exact ⟨t + 1, by omega, by go_num, by
    have hs := Bc.iset j (c + 1)
    have h2 := HS.out
    rw [HJ.out, HC.out] at h2
    rw [h2] at hs
    exact hs, (Below.y0 hbr)⟩
   case measure => simp [intOf]; omega
  ·obtain rfl : t = R := by omega
   rw [HA.out] at Bc
   go_wp2
   go_ret2
   exact ⟨_, rfl, Nat.le_refl _, Bc, hbr⟩
end Go.Proofs.YtgknjikjjklaiaaGreatDoor
end
