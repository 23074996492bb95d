/- NetJoins: two nets, one behind the other, are one net, there and back: the law returns true, where what it reads is of bulk at most 1048576; and the input reads as it did. -/
import Derived.Test.YtikcdjibflleeaaNet3
import Derived.Test.YtikcdjibflleeaaAppRow
import Derived.Test.YtikcdjibflleeaaPJoins
import Derived.Test.YtikcdjibflleeaaUptoL
import Derived.Test.YtikcdjibflleeaaJMat
import Derived.Test.YtikcdjibflleeaaZero1
import Derived.Test.YtikcdjibflleeaaBack3
import Derived.Test.YtikcdjibflleeaaGrads
import Derived.Deep.DeepHandedRow
set_option linter.unusedVariables false
set_option linter.unusedSimpArgs false
set_option linter.unusedSectionVars false
namespace Gal
def joinX : Mat := ⟨1, 2, [5, -5]⟩
theorem join_fact : netGoFault [reluL] joinX = 0 := by decide +kernel
end Gal
namespace Go.Proofs.Ytikcdjibflleeaa.lawNetJoins
open Go.ChangeShapes Go.WideShapes Go.ChangeAt Go.RowKit Gal
set_option maxRecDepth 100000
set_option maxHeartbeats 4000000
theorem info_layer : (Try.prog.info? 30).map (fun i => (i.zero, i.size, i.bytes)) = some (some (.agg #[.int .i64 0, .int .i64 0, .int .i64 0, .slice none 0 0, .int .i64 0, .int .i64 0, .slice none 0 0]), 7, 88) := by kernel_rfl
theorem walk (ps : List Lay) (v0 : Value) (qs : List Lay) (v1 : Value) (x : Mat) (v2 : Value) (g : Mat) (v3 : Value) (w : World) (h0 : LLaysAt w v0 ps) (h1 : LLaysAt w v1 qs) (h2 : MatAt w v2 x) (h3 : MatAt w v3 g) (bk : ps.length ≤ 1048576 ∧ qs.length ≤ 1048576 ∧ x.cells.length ≤ 1048576 ∧ g.cells.length ≤ 1048576) :
    Calls Try.prog 5 #[v0, v1, v2, v3] w fun e w' => e = .returned (.bool true) ∧ Below w.heap.size w w' := by
  obtain ⟨a0, n, k0, b0, o0, rfl, q0⟩ := h0
  obtain ⟨a1, m, k1, b1, o1, rfl, q1⟩ := h1
  obtain ⟨a2, n2, k2, b2, o2, rfl, q2⟩ := h2
  obtain ⟨a3, n3, k3, b3, o3, rfl, q3⟩ := h3
  have hn := q0.len
  have hm := q1.len
  have HN := Lib.hid hn
  have HM := Lib.hid hm
  have HBK := Lib.hid bk
  have r0 := q0.wide (G := fun b => b < w.heap.size) (fun b _ hl => hl)
  have r1 := q1.wide (G := fun b => b < w.heap.size) (fun b _ hl => hl)
  obtain ⟨iL, hiL, hzL0, hzL1, hzL2⟩ := info_parts info_layer
  obtain ⟨iM, hiM, hzM0, hzM1, hzM2⟩ := info_parts info_mat
  obtain ⟨iG, hiG, hzG0, hzG1, hzG2⟩ := info_parts info_grad
  clear bk hn hm q0 q1
  go_enter Try.func5, Try.ntmps5
  go_wp2_with fail
  refine (netGo_any [reluL] anyB _ 1 1 (w.heap.size + 1 + 1) 0 joinX _ _ (row_one (T := 30) (show Box _ (w.heap.size + 1 + 1) [.int .i64 2, .int .i64 0, .int .i64 0, .slice none 0 0, .int .i64 0, .int .i64 0, .slice none 0 0] 30 from (by repeat (first | fail | (with_reducible refine (Box.new' _ (w.heap.size + 1 + 1) _ _ ?_); (simp; done)) | (with_reducible refine Box.alloc ?_ _) | (with_reducible refine Box.drewN ?_ _) | (with_reducible refine Box.drew ?_) | (with_reducible refine Box.far ?_ ?_ _; rotate_left 1; (first | (dsimp only; omega) | omega | (simp; omega) | simp))))) (show Form.lay.reads _ anyB [.int .i64 2, .int .i64 0, .int .i64 0, .slice none 0 0, .int .i64 0, .int .i64 0, .slice none 0 0] reluL from reads_lay (l := reluL) (fun _ => trivial) (noInts _) (fun _ => trivial) (noInts _)) trivial) (show MatAt _ (.agg #[.int .i64 1, .int .i64 2, .slice (some ⟨w.heap.size + 1 + 1 + 1, 0, none⟩) 2 2]) joinX from ⟨_, _, _, _, _, rfl, ints_box (xs := [5, -5]) (t := 3) (show Box _ (w.heap.size + 1 + 1 + 1) [.int .i64 5, .int .i64 (-5)] 3 from (by repeat (first | fail | (with_reducible refine (Box.new' _ (w.heap.size + 1 + 1 + 1) _ _ ?_); (simp; done)) | (with_reducible refine Box.alloc ?_ _) | (with_reducible refine Box.drewN ?_ _) | (with_reducible refine Box.drew ?_) | (with_reducible refine Box.far ?_ ?_ _; rotate_left 1; (first | (dsimp only; omega) | omega | (simp; omega) | simp))))) (by decide)⟩)).mono ?_
  rintro e w1 ⟨u1, rfl, hb1, hu1, _⟩
  obtain ⟨a4, k4, b4, rfl, r4⟩ := hu1 join_fact
  rw [errV_nil join_fact]
  clear hu1 r4
  have B6 := ((show Box _ w.heap.size [.int .i64 x.rows, .int .i64 x.cols, .slice a2 n2 k2] 28 from (by repeat (first | fail | (with_reducible refine (Box.new' _ w.heap.size _ _ ?_); (simp; done)) | (with_reducible refine Box.alloc ?_ _) | (with_reducible refine Box.drewN ?_ _) | (with_reducible refine Box.drew ?_) | (with_reducible refine Box.far ?_ ?_ _; rotate_left 1; (first | (dsimp only; omega) | omega | (simp; omega) | simp)))))).keep hb1
  have B6c := B6.cell
  have B6f := B6.thawed
  have B6z := B6.lt
  have B6k := lt_add B6z
  have B7 := ((show Box _ (w.heap.size + 1) [.int .i64 g.rows, .int .i64 g.cols, .slice a3 n3 k3] 28 from (by repeat (first | fail | (with_reducible refine (Box.new' _ (w.heap.size + 1) _ _ ?_); (simp; done)) | (with_reducible refine Box.alloc ?_ _) | (with_reducible refine Box.drewN ?_ _) | (with_reducible refine Box.drew ?_) | (with_reducible refine Box.far ?_ ?_ _; rotate_left 1; (first | (dsimp only; omega) | omega | (simp; omega) | simp)))))).keep hb1
  have B7c := B7.cell
  have B7f := B7.thawed
  have B7z := B7.lt
  have B7k := lt_add B7z
  have hkw1 : Below w.heap.size w w1 := (by repeat (first | fail | (with_reducible exact Below.refl _ _) | (with_reducible refine Below.al ?_ _) | (with_reducible refine Below.drN ?_ _) | (with_reducible refine Below.drew ?_) | (with_reducible refine Below.st ?_ ?_ _; rotate_left 1; (first | (dsimp only; omega) | omega | (simp; omega) | simp)) | (with_reducible refine Below.go ?_ hb1) | exact Below.refl _ _))
  replace r0 := r0.keep hkw1
  replace r1 := r1.keep hkw1
  replace q2 := q2.keep hkw1
  replace q3 := q3.keep hkw1
  have hsw1 := hkw1.size
  have hbw1 : Below w.heap.size w w1 := hkw1
  go_wp2_with (at_builtin; refine wpList_append_row rfl (.tmp 40) (.tmp 41) 22 rfl Form.lay w1.heap.size 30 iL (.agg #[.int .i64 0, .int .i64 0, .int .i64 0, .slice none 0 0, .int .i64 0, .int .i64 0, .slice none 0 0]) 88 Try.underlying22 hiL hzL0 hzL1 hzL2 rfl (by decide) (.slice (some ⟨w1.heap.size, 0, none⟩) 0 0) [] rfl (OwnRow.made Form.lay 30 w1 w1.heap.size w1.heap.size _ #[] 0 rfl (Nat.le_refl _) (Nat.zero_le _) rfl) (fun b => b < w.heap.size) a0 n k0 b0 o0 ps rfl (r0.alloc _) (fun b hb _ => Nat.lt_of_lt_of_le hb hbw1.size) (by have := HBK.out; rw [HN.out] at this; simp; omega) (by have := HBK.out; rw [HN.out] at this; unfold maxLen; simp; omega) (by simp) ?_)
  intro v5 w5 hown5 hg5
  have hb5 : Below w1.heap.size w1 w5 := Below.grown ((Below.refl w1.heap.size w1).alloc (Nat.le_refl _) _) hg5 (by simp) (fun q hq => by simp [Value.ownBlock] at hq; omega)
  go_wp2_with (at_builtin; refine wpList_append_row rfl (.tmp 43) (.tmp 44) 22 rfl Form.lay w1.heap.size 30 iL (.agg #[.int .i64 0, .int .i64 0, .int .i64 0, .slice none 0 0, .int .i64 0, .int .i64 0, .slice none 0 0]) 88 Try.underlying22 hiL hzL0 hzL1 hzL2 rfl (by decide) v5 ps rfl hown5 (fun b => b < w.heap.size) a1 m k1 b1 o1 qs rfl (r1.keep hb5) (fun b hb _ => Nat.lt_of_lt_of_le hb hbw1.size) (by have := HBK.out; rw [HM.out] at this; omega) (by have := HBK.out; rw [HM.out] at this; unfold maxLen; omega) hb5.size ?_)
  intro v6 w6 hown6 hg6
  have hb6 : Below w1.heap.size w1 w6 := Below.grown hb5 hg6 hb5.size (fun q hq => (hown5.base_le q hq).1)
  obtain ⟨av, cv, bv, rfl, _, rA⟩ := hown6.row (G := anyB) (fun _ _ _ => trivial) (fun _ _ => trivial)
  have hkw6 : Below w1.heap.size w1 w6 := (by repeat (first | fail | (with_reducible exact Below.refl _ _) | (with_reducible refine Below.al ?_ _) | (with_reducible refine Below.drN ?_ _) | (with_reducible refine Below.drew ?_) | (with_reducible refine Below.st ?_ ?_ _; rotate_left 1; (first | (dsimp only; omega) | omega | (simp; omega) | simp)) | (with_reducible refine Below.go ?_ hb6) | exact Below.refl _ _))
  replace B6 := B6.keep hkw6
  replace B6c := B6.cell
  replace B6f := B6.thawed
  replace B6z := B6.lt
  replace B6k := lt_add B6z
  replace B7 := B7.keep hkw6
  replace B7c := B7.cell
  replace B7f := B7.thawed
  replace B7z := B7.lt
  replace B7k := lt_add B7z
  replace r0 := r0.keep hkw6
  replace r1 := r1.keep hkw6
  replace q2 := q2.keep hkw6
  replace q3 := q3.keep hkw6
  have hbw6 : Below w.heap.size w w6 := (by repeat (first | fail | (with_reducible exact Below.refl _ _) | (with_reducible exact hbw1) | (with_reducible refine Below.al ?_ _) | (with_reducible refine Below.drN ?_ _) | (with_reducible refine Below.drew ?_) | (with_reducible refine Below.st ?_ ?_ _; rotate_left 1; (first | (dsimp only; omega) | omega | (simp; omega) | simp)) | (with_reducible refine Below.go ?_ hb6) | exact Below.refl _ _ | exact hbw1))
  obtain ⟨N, hNN⟩ : ∃ N, (ps ++ qs).length = N := ⟨_, rfl⟩
  rw [hNN] at rA ⊢
  have HNN : Hid (N = n + m) := Lib.hid (by rw [← hNN, List.length_append, HN.out, HM.out])
  clear hown5 hown6 hg5 hg6 hb5 hNN
  go_wp2_with fail
  refine (netGo_any (ps ++ qs) anyB av N cv bv 0 x _ _ rA (MatAt.mk q2)).mono ?_
  rintro e w7 ⟨u7, rfl, hb7, hu7, hn7⟩
  by_cases hf : netGoFault (ps ++ qs) x = 0
  · rw [errV_nil hf]
    obtain ⟨e1, e2, e3, e4⟩ := join_go hf
    rw [HN.out, HM.out] at e3
    have HE2 := Lib.hid e2
    have HE3 := Lib.hid e3
    have HE4 := Lib.hid e4
    obtain ⟨a7, k7, b7, rfl, r7⟩ := hu7 hf
    have HB12 : Hid (n + 1 ≤ 13 ∧ m + 1 ≤ 13) := Lib.hid (by
      have h12 : ¬ 12 < (ps ++ qs).length := fun h => by unfold netGoFault at hf; rw [if_pos h] at hf; exact absurd hf (by decide)
      rw [List.length_append, HN.out, HM.out] at h12
      omega)
    clear hu7 hn7 hf e2 e3 e4
    have hkw7 : Below w6.heap.size w6 w7 := (by repeat (first | fail | (with_reducible exact Below.refl _ _) | (with_reducible refine Below.al ?_ _) | (with_reducible refine Below.drN ?_ _) | (with_reducible refine Below.drew ?_) | (with_reducible refine Below.st ?_ ?_ _; rotate_left 1; (first | (dsimp only; omega) | omega | (simp; omega) | simp)) | (with_reducible refine Below.go ?_ hb7) | exact Below.refl _ _))
    replace B6 := B6.keep hkw7
    replace B6c := B6.cell
    replace B6f := B6.thawed
    replace B6z := B6.lt
    replace B6k := lt_add B6z
    replace B7 := B7.keep hkw7
    replace B7c := B7.cell
    replace B7f := B7.thawed
    replace B7z := B7.lt
    replace B7k := lt_add B7z
    replace r0 := r0.keep hkw7
    replace r1 := r1.keep hkw7
    replace q2 := q2.keep hkw7
    replace q3 := q3.keep hkw7
    replace rA := rA.keep hkw7
    have hsw7 := hkw7.size
    go_wp2_with fail
    refine (netGo_any ps _ a0 n k0 b0 o0 x _ _ r0 (MatAt.mk q2)).mono ?_
    rw [errV_nil e1]
    rintro e w8 ⟨u8, rfl, hb8, hu8, _⟩
    obtain ⟨a8, k8, b8, rfl, r8⟩ := hu8 e1
    clear hu8 e1
    have hkw8 : Below w7.heap.size w7 w8 := (by repeat (first | fail | (with_reducible exact Below.refl _ _) | (with_reducible refine Below.al ?_ _) | (with_reducible refine Below.drN ?_ _) | (with_reducible refine Below.drew ?_) | (with_reducible refine Below.st ?_ ?_ _; rotate_left 1; (first | (dsimp only; omega) | omega | (simp; omega) | simp)) | (with_reducible refine Below.go ?_ hb8) | exact Below.refl _ _))
    replace B6 := B6.keep hkw8
    replace B6c := B6.cell
    replace B6f := B6.thawed
    replace B6z := B6.lt
    replace B6k := lt_add B6z
    replace B7 := B7.keep hkw8
    replace B7c := B7.cell
    replace B7f := B7.thawed
    replace B7z := B7.lt
    replace B7k := lt_add B7z
    replace r0 := r0.keep hkw8
    replace r1 := r1.keep hkw8
    replace q2 := q2.keep hkw8
    replace q3 := q3.keep hkw8
    replace rA := rA.keep hkw8
    replace r7 := r7.keep hkw8
    have hsw8 := hkw8.size
    obtain rfl := r8.ptr (by omega)
    obtain ⟨aY, nY, kY, bY, oY, y0, y1, y2, _, yY⟩ := r8.mats.cell n (by omega)
    have hmid : mx (netOuts ps x n) n = midOf ps x := by rw [outs_mx (Nat.le_refl _), ← HN.out]; rfl
    rw [hmid] at y0 y1 yY
    simp only [Nat.zero_add] at y0 y1 y2
    have hn100 : ([] : List Mat).length + (n + 1) ≤ 100 := by have := HB12.out; simp only [List.length_nil]; omega
    have HS0 := Lib.hid hn100
    have hn101 : (netOuts ps x n).length + m ≤ 100 := by have := HB12.out; rw [netOuts_length]; omega
    have HS3 := Lib.hid hn101
    have hg8 : g.cells.length * 8 ≤ 140737488355328 := by have := HBK.out; omega
    have HG8 := Lib.hid hg8
    clear hn100 hn101 hg8
    have i0 : (0 : Int) ≤ (n : Int) := by omega
    have i1 : (n : Int) < (n : Int) + 1 := by omega
    have i2 : wrap64 ((n : Int) + 1) = (n : Int) + 1 := by have := HBK.out; rw [HN.out] at this; unfold wrap64; omega
    have i3 : wrap64 ((m : Int) + 1) = (m : Int) + 1 := by have := HBK.out; rw [HM.out] at this; unfold wrap64; omega
    clear hmid
    go_wp2_with fail
    refine (netGo_any qs _ a1 m k1 b1 o1 (midOf ps x) _ _ r1 (MatAt.mk yY)).mono ?_
    rw [errV_nil HE2.out]
    rintro e w9 ⟨u9, rfl, hb9, hu9, _⟩
    obtain ⟨a9, k9, b9, rfl, r9⟩ := hu9 HE2.out
    clear hu9 y0 y1 y2 yY
    have hkw9 : Below w8.heap.size w8 w9 := (by repeat (first | fail | (with_reducible exact Below.refl _ _) | (with_reducible refine Below.al ?_ _) | (with_reducible refine Below.drN ?_ _) | (with_reducible refine Below.drew ?_) | (with_reducible refine Below.st ?_ ?_ _; rotate_left 1; (first | (dsimp only; omega) | omega | (simp; omega) | simp)) | (with_reducible refine Below.go ?_ hb9) | exact Below.refl _ _))
    replace B6 := B6.keep hkw9
    replace B6c := B6.cell
    replace B6f := B6.thawed
    replace B6z := B6.lt
    replace B6k := lt_add B6z
    replace B7 := B7.keep hkw9
    replace B7c := B7.cell
    replace B7f := B7.thawed
    replace B7z := B7.lt
    replace B7k := lt_add B7z
    replace r0 := r0.keep hkw9
    replace r1 := r1.keep hkw9
    replace q2 := q2.keep hkw9
    replace q3 := q3.keep hkw9
    replace rA := rA.keep hkw9
    replace r7 := r7.keep hkw9
    replace r8 := r8.keep hkw9
    have hsw9 := hkw9.size
    obtain rfl := r9.ptr (Nat.succ_pos m)
    go_wp2_with (at_builtin; refine wpList_append_row rfl (.tmp 90) (.tmp 91) 53 rfl Form.mat w9.heap.size 28 iM (.agg #[.int .i64 0, .int .i64 0, .slice none 0 0]) 40 Try.underlying53 hiM hzM0 hzM1 hzM2 rfl (by decide) (.slice (some ⟨w9.heap.size, 0, none⟩) 0 0) [] rfl (OwnRow.made Form.mat 28 w9 w9.heap.size w9.heap.size _ #[] 0 rfl (Nat.le_refl _) (Nat.zero_le _) rfl) (fun b => b < w9.heap.size) (some ⟨b8, 0, none⟩) (n + 1) k8 b8 0 (netOuts ps x n) rfl ((r8.wide (G := fun b => b < w9.heap.size) (fun b _ hl => hl)).alloc _) (fun b hb _ => hb) (Nat.le_trans (Nat.mul_le_mul_right 40 HS0.out) (by decide)) (Nat.le_trans HS0.out (by decide)) (by simp) ?_)
    intro vA wA hownA hgA
    clear i2 i3
    have hz9 := hkw9.size
    have hz8 := hkw8.size
    have hz7 := hkw7.size
    have hz6 := hbw6.size
    have hbw7 : Below w.heap.size w w7 := hbw6.trans (hkw7.mono (by omega))
    have hbw8 : Below w.heap.size w w8 := hbw7.trans (hkw8.mono (by omega))
    have hbw9 : Below w.heap.size w w9 := hbw8.trans (hkw9.mono (by omega))
    have hbA : Below w9.heap.size w9 wA := Below.grown ((Below.refl w9.heap.size w9).alloc (Nat.le_refl _) _) hgA (by simp) (fun q hq => by simp [Value.ownBlock] at hq; omega)
    have s9 := ((r9.wide (G := fun b => b < w9.heap.size) (fun b _ hl => hl)).keep hbA).drop1 (s := 3) rfl
    have hzA := hbA.size
    obtain ⟨A9, hA9⟩ : ∃ A9 : Option Addr, (if k9 = 1 then some ⟨b9, 0, none⟩ else some ⟨b9, 3, none⟩) = A9 := ⟨_, rfl⟩
    rw [hA9] at s9
    go_wp2_with (at_builtin; refine wpList_append_row rfl (.tmp 93) (.tmp 95) 53 rfl Form.mat w9.heap.size 28 iM (.agg #[.int .i64 0, .int .i64 0, .slice none 0 0]) 40 Try.underlying53 hiM hzM0 hzM1 hzM2 rfl (by decide) vA (netOuts ps x n) rfl hownA (fun b => b < w9.heap.size) A9 m (k9 - 1) b9 3 ((netOuts qs (midOf ps x) m).drop 1) rfl s9 (fun b hb _ => hb) (Nat.le_trans (Nat.mul_le_mul_right 40 HS3.out) (by decide)) (Nat.le_trans HS3.out (by decide)) hzA ?_)
    intro vB wB hownB hgB
    have hbB : Below w9.heap.size w9 wB := Below.grown hbA hgB hzA (fun q hq => (hownA.base_le q hq).1)
    rw [← List.drop_one, ← HE3.out, ← HNN.out] at hownB
    obtain ⟨aB, cB, bB, hvB, _, rB⟩ := hownB.row (G := anyB) (fun _ _ _ => trivial) (fun _ _ => trivial)
    rw [netOuts_length] at hvB rB
    subst hvB
    have hkwB : Below w9.heap.size w9 wB := (by repeat (first | fail | (with_reducible exact Below.refl _ _) | (with_reducible refine Below.al ?_ _) | (with_reducible refine Below.drN ?_ _) | (with_reducible refine Below.drew ?_) | (with_reducible refine Below.st ?_ ?_ _; rotate_left 1; (first | (dsimp only; omega) | omega | (simp; omega) | simp)) | (with_reducible refine Below.go ?_ hbB) | exact Below.refl _ _))
    replace B6 := B6.keep hkwB
    replace B6c := B6.cell
    replace B6f := B6.thawed
    replace B6z := B6.lt
    replace B6k := lt_add B6z
    replace B7 := B7.keep hkwB
    replace B7c := B7.cell
    replace B7f := B7.thawed
    replace B7z := B7.lt
    replace B7k := lt_add B7z
    replace r0 := r0.keep hkwB
    replace r1 := r1.keep hkwB
    replace q2 := q2.keep hkwB
    replace q3 := q3.keep hkwB
    replace rA := rA.keep hkwB
    replace r7 := r7.keep hkwB
    replace r8 := r8.keep hkwB
    replace r9 := r9.keep hkwB
    have hbwB : Below w.heap.size w wB := hbw9.trans (hbB.mono (by omega))
    clear hownA hownB hgA hgB hbA s9
    go_wp2_with fail
    refine (sameAll_same (netOuts (ps ++ qs) x N) _ _ _ _ _ _ _ _ _ _ _ _ _ r7 rB).mono ?_
    rintro e w12 ⟨rfl, hb12⟩
    have hkw12 : Below wB.heap.size wB w12 := (by repeat (first | fail | (with_reducible exact Below.refl _ _) | (with_reducible refine Below.al ?_ _) | (with_reducible refine Below.drN ?_ _) | (with_reducible refine Below.drew ?_) | (with_reducible refine Below.st ?_ ?_ _; rotate_left 1; (first | (dsimp only; omega) | omega | (simp; omega) | simp)) | (with_reducible refine Below.go ?_ hb12) | exact Below.refl _ _))
    replace B6 := B6.keep hkw12
    replace B6c := B6.cell
    replace B6f := B6.thawed
    replace B6z := B6.lt
    replace B6k := lt_add B6z
    replace B7 := B7.keep hkw12
    replace B7c := B7.cell
    replace B7f := B7.thawed
    replace B7z := B7.lt
    replace B7k := lt_add B7z
    replace r0 := r0.keep hkw12
    replace r1 := r1.keep hkw12
    replace q2 := q2.keep hkw12
    replace q3 := q3.keep hkw12
    replace rA := rA.keep hkw12
    replace r7 := r7.keep hkw12
    replace r8 := r8.keep hkw12
    replace r9 := r9.keep hkw12
    have hsw12 := hkw12.size
    clear rB
    go_wp2_with fail
    refine (netBack_any (ps ++ qs) (netOuts (ps ++ qs) x N) g _ _ _ _ N (N + 1) _ _ _ _ _ _ _ _ rA r7 (MatAt.mk q3) HG8.out).mono ?_
    rintro e w13 ⟨u13, d13, rfl, hb13, hu13, hz13⟩
    by_cases hfb : netBackFault (ps ++ qs) (netOuts (ps ++ qs) x N) g = 0
    · rw [errV_nil hfb]
      obtain ⟨f1, f2, f3, f4⟩ := join_back (ps := ps) (qs := qs) (x := x) (g := g) (by unfold sawAll; rw [HN.out, HM.out, ← HNN.out]; exact hfb)
      have f5 := bDs_join (ps := ps) (qs := qs) (x := x) (g := g)
      have f6 : backOf ps qs x g = bM qs (netOuts qs (midOf ps x) m) g m m := by unfold backOf sawOne; rw [HM.out]
      unfold sawOne at f1
      unfold sawOne at f3
      unfold sawAll sawOne at f4
      unfold sawAll sawOne at f5
      rw [HM.out] at f1
      rw [HN.out] at f3
      rw [HN.out, HM.out, ← HNN.out] at f4
      rw [HN.out, HM.out, ← HNN.out] at f5
      obtain ⟨R, hR⟩ : ∃ R, R = backOf ps qs x g := ⟨_, rfl⟩
      rw [← hR] at f2 f3 f4 f5 f6
      obtain ⟨⟨aU, nU, cU, bU, oU, rfl, _, xU⟩, aD, kD, bD', rfl, rD⟩ := hu13 hfb
      rw [f5] at rD
      obtain ⟨Z, hZ⟩ : ∃ Z, Z = bM (ps ++ qs) (netOuts (ps ++ qs) x N) g N N := ⟨_, rfl⟩
      rw [← hZ] at xU ⊢
      rw [← hZ] at f4
      have HR8 : Hid (R.cells.length * 8 ≤ 140737488355328) := Lib.hid (by
        obtain ⟨R', K, xs, e, hR', hK, hl, _⟩ := mat_form f2
        have h1 : R'  * K ≤ 24 * 12 := Nat.mul_le_mul hR' hK
        rw [e]
        dsimp only
        omega)
      have HF1 := Lib.hid f1
      have HF3 := Lib.hid f3
      have HF4 := Lib.hid f4
      have HF6 := Lib.hid f6
      clear hu13 hz13 hfb f1 f2 f3 f4 f5 f6 hR hZ
      have hkw13 : Below w12.heap.size w12 w13 := (by repeat (first | fail | (with_reducible exact Below.refl _ _) | (with_reducible refine Below.al ?_ _) | (with_reducible refine Below.drN ?_ _) | (with_reducible refine Below.drew ?_) | (with_reducible refine Below.st ?_ ?_ _; rotate_left 1; (first | (dsimp only; omega) | omega | (simp; omega) | simp)) | (with_reducible refine Below.go ?_ hb13) | exact Below.refl _ _))
      replace B7 := B7.keep hkw13
      replace B7c := B7.cell
      replace B7f := B7.thawed
      replace B7z := B7.lt
      replace B7k := lt_add B7z
      replace r0 := r0.keep hkw13
      replace r1 := r1.keep hkw13
      replace q3 := q3.keep hkw13
      replace r8 := r8.keep hkw13
      replace r9 := r9.keep hkw13
      have hsw13 := hkw13.size
      go_wp2_with fail
      refine (netBack_any qs (netOuts qs (midOf ps x) m) g _ _ a1 _ m (m + 1) _ _ _ _ _ _ _ _ (r1.alloc _) (r9.alloc _) (MatAt.mk (q3.alloc _)) HG8.out).mono ?_
      rintro e w14 ⟨u14, d14, rfl, hb14, hu14, _⟩
      obtain ⟨⟨aV, nV, cV, bV, oV, rfl, _, xV⟩, aE, kE, bE, rfl, rE⟩ := hu14 HF1.out
      rw [← HF6.out] at xV ⊢
      rw [errV_nil HF1.out]
      clear hu14
      have B17 := (Box.new w13 [.int .i64 Z.rows, .int .i64 Z.cols, .slice aU nU cU] 28).keep hb14
      have B17c := B17.cell
      have B17f := B17.thawed
      have B17z := B17.lt
      have B17k := lt_add B17z
      have hkw14 : Below w13.heap.size w13 w14 := (by repeat (first | fail | (with_reducible exact Below.refl _ _) | (with_reducible refine Below.al ?_ _) | (with_reducible refine Below.drN ?_ _) | (with_reducible refine Below.drew ?_) | (with_reducible refine Below.st ?_ ?_ _; rotate_left 1; (first | (dsimp only; omega) | omega | (simp; omega) | simp)) | (with_reducible refine Below.go ?_ hb14) | exact Below.refl _ _))
      replace r0 := r0.keep hkw14
      replace r8 := r8.keep hkw14
      replace rD := rD.keep hkw14
      replace xU := xU.keep hkw14
      have hsw14 := hkw14.size
      go_wp2_with fail
      refine (netBack_any ps (netOuts ps x n) R _ _ a0 _ n (n + 1) _ _ _ _ _ _ _ _ (r0.alloc _) (r8.alloc _) (MatAt.mk (xV.alloc _)) HR8.out).mono ?_
      rintro e w15 ⟨u15, d15, rfl, hb15, hu15, _⟩
      obtain ⟨⟨aW, nW, cW, bW, oW, rfl, _, xW⟩, aH, kH, bH, rfl, rH⟩ := hu15 HF3.out
      rw [← HF4.out] at xW ⊢
      rw [errV_nil HF3.out]
      clear hu15 r0 r8
      have B19 := (Box.new w14 [.int .i64 R.rows, .int .i64 R.cols, .slice aV nV cV] 28).keep hb15
      have B19c := B19.cell
      have B19f := B19.thawed
      have B19z := B19.lt
      have B19k := lt_add B19z
      have hkw15 : Below w14.heap.size w14 w15 := (by repeat (first | fail | (with_reducible exact Below.refl _ _) | (with_reducible refine Below.al ?_ _) | (with_reducible refine Below.drN ?_ _) | (with_reducible refine Below.drew ?_) | (with_reducible refine Below.st ?_ ?_ _; rotate_left 1; (first | (dsimp only; omega) | omega | (simp; omega) | simp)) | (with_reducible refine Below.go ?_ hb15) | exact Below.refl _ _))
      replace B17 := B17.keep hkw15
      replace B17c := B17.cell
      replace B17f := B17.thawed
      replace B17z := B17.lt
      replace B17k := lt_add B17z
      replace rD := rD.keep hkw15
      replace xU := xU.keep hkw15
      replace rE := rE.keep hkw15
      have hsw15 := hkw15.size
      go_wp2_with fail
      refine (matrices_same Z _ _ _ (MatAt.mk (xW.alloc _)) (MatAt.mk (xU.alloc _))).mono ?_
      rintro e w16 ⟨rfl, hb16⟩
      have hkw16 : Below w15.heap.size w15 w16 := (by repeat (first | fail | (with_reducible exact Below.refl _ _) | (with_reducible refine Below.al ?_ _) | (with_reducible refine Below.drN ?_ _) | (with_reducible refine Below.drew ?_) | (with_reducible refine Below.st ?_ ?_ _; rotate_left 1; (first | (dsimp only; omega) | omega | (simp; omega) | simp)) | (with_reducible refine Below.go ?_ hb16) | exact Below.refl _ _))
      replace rD := rD.keep hkw16
      replace rE := rE.keep hkw16
      replace rH := rH.keep hkw16
      have hsw16 := hkw16.size
      have HS5 : Hid (([] : List Grd).length + n ≤ 100) := Lib.hid (by have := HB12.out; simp only [List.length_nil]; omega)
      have HS6 : Hid ((bDs ps (netOuts ps x n) R n).length + m ≤ 100) := Lib.hid (by have := HB12.out; rw [bDs_length]; omega)
      have hbw16 : Below w.heap.size w w16 := (by repeat (first | fail | (with_reducible exact Below.refl _ _) | (with_reducible exact hbwB) | (with_reducible refine Below.al ?_ _) | (with_reducible refine Below.drN ?_ _) | (with_reducible refine Below.drew ?_) | (with_reducible refine Below.st ?_ ?_ _; rotate_left 1; (first | (dsimp only; omega) | omega | (simp; omega) | simp)) | (with_reducible refine Below.go ?_ hb16) | (with_reducible refine Below.go ?_ hb15) | (with_reducible refine Below.go ?_ hb14) | (with_reducible refine Below.go ?_ hb13) | (with_reducible refine Below.go ?_ hb12) | exact Below.refl _ _ | exact hbwB))
      go_wp2_with (at_builtin; refine wpList_append_row rfl (.tmp 135) (.tmp 136) 23 rfl Form.grd w16.heap.size 32 iG (.agg #[.int .i64 0, .int .i64 0, .slice none 0 0, .int .i64 0, .int .i64 0, .slice none 0 0]) 80 Try.underlying23 hiG hzG0 hzG1 hzG2 rfl (by decide) (.slice (some ⟨w16.heap.size, 0, none⟩) 0 0) [] rfl (OwnRow.made Form.grd 32 w16 w16.heap.size w16.heap.size _ #[] 0 rfl (Nat.le_refl _) (Nat.zero_le _) rfl) (fun b => b < w16.heap.size) aH n kH bH 0 (bDs ps (netOuts ps x n) R n) rfl ((rH.wide (G := fun b => b < w16.heap.size) (fun b _ hl => hl)).alloc _) (fun b hb _ => hb) (Nat.le_trans (Nat.mul_le_mul_right 80 HS5.out) (by decide)) (Nat.le_trans HS5.out (by decide)) (by simp) ?_)
      intro vC wC hownC hgC
      have hbC : Below w16.heap.size w16 wC := Below.grown ((Below.refl w16.heap.size w16).alloc (Nat.le_refl _) _) hgC (by simp) (fun q hq => by simp [Value.ownBlock] at hq; omega)
      have hzC := hbC.size
      go_wp2_with (at_builtin; refine wpList_append_row rfl (.tmp 138) (.tmp 139) 23 rfl Form.grd w16.heap.size 32 iG (.agg #[.int .i64 0, .int .i64 0, .slice none 0 0, .int .i64 0, .int .i64 0, .slice none 0 0]) 80 Try.underlying23 hiG hzG0 hzG1 hzG2 rfl (by decide) vC (bDs ps (netOuts ps x n) R n) rfl hownC (fun b => b < w16.heap.size) aE m kE bE 0 (bDs qs (netOuts qs (midOf ps x) m) g m) rfl ((rE.wide (G := fun b => b < w16.heap.size) (fun b _ hl => hl)).keep hbC) (fun b hb _ => hb) (Nat.le_trans (Nat.mul_le_mul_right 80 HS6.out) (by decide)) (Nat.le_trans HS6.out (by decide)) hzC ?_)
      intro vF wF hownF hgF
      have hbF : Below w16.heap.size w16 wF := Below.grown hbC hgF hzC (fun q hq => (hownC.base_le q hq).1)
      obtain ⟨aF, cF, bF', hvF, _, rF⟩ := hownF.row (G := anyB) (fun _ _ _ => trivial) (fun _ _ => trivial)
      rw [List.length_append, bDs_length, bDs_length] at hvF rF
      subst hvF
      replace rD := rD.keep hbF
      have hbwF : Below w.heap.size w wF := hbw16.trans (hbF.mono hbw16.size)
      clear hownC hownF hgC hgF hbC rE rH
      go_wp2_with fail
      refine (grads_same _ _ _ _ _ _ _ _ _ _ _ _ _ _ rF rD).mono ?_
      rintro e w17 ⟨rfl, hb17⟩
      have hbe : Below w.heap.size w w17 := (by repeat (first | fail | (with_reducible exact Below.refl _ _) | (with_reducible exact hbwF) | (with_reducible refine Below.al ?_ _) | (with_reducible refine Below.drN ?_ _) | (with_reducible refine Below.drew ?_) | (with_reducible refine Below.st ?_ ?_ _; rotate_left 1; (first | (dsimp only; omega) | omega | (simp; omega) | simp)) | (with_reducible refine Below.go ?_ hb17) | exact Below.refl _ _ | exact hbwF))
      clear rD rF
      go_wp2
      go_ret
      exact ⟨rfl, hbe⟩
    · rw [errV_err hfb]
      obtain ⟨rfl, rfl⟩ := hz13 hfb
      have hbe : Below w.heap.size w w13 := (by repeat (first | fail | (with_reducible exact Below.refl _ _) | (with_reducible exact hbwB) | (with_reducible refine Below.al ?_ _) | (with_reducible refine Below.drN ?_ _) | (with_reducible refine Below.drew ?_) | (with_reducible refine Below.st ?_ ?_ _; rotate_left 1; (first | (dsimp only; omega) | omega | (simp; omega) | simp)) | (with_reducible refine Below.go ?_ hb13) | (with_reducible refine Below.go ?_ hb12) | exact Below.refl _ _ | exact hbwB))
      clear hu13 hz13 hfb r0 r1 q2 q3 rA r7 r8 r9
      go_wp2
      go_ret
      exact ⟨rfl, (by repeat (first | fail | (with_reducible exact Below.refl _ _) | (with_reducible exact hbe) | (with_reducible refine Below.al ?_ _) | (with_reducible refine Below.drN ?_ _) | (with_reducible refine Below.drew ?_) | (with_reducible refine Below.st ?_ ?_ _; rotate_left 1; (first | (dsimp only; omega) | omega | (simp; omega) | simp)) | exact Below.refl _ _ | exact hbe))⟩
  · rw [errV_err hf]
    obtain rfl := hn7 hf
    have hbe : Below w.heap.size w w7 := (by repeat (first | fail | (with_reducible exact Below.refl _ _) | (with_reducible exact hbw6) | (with_reducible refine Below.al ?_ _) | (with_reducible refine Below.drN ?_ _) | (with_reducible refine Below.drew ?_) | (with_reducible refine Below.st ?_ ?_ _; rotate_left 1; (first | (dsimp only; omega) | omega | (simp; omega) | simp)) | (with_reducible refine Below.go ?_ hb7) | exact Below.refl _ _ | exact hbw6))
    clear hu7 hn7 hf r0 r1 q2 q3 rA
    go_wp2
    go_ret
    exact ⟨rfl, hbe⟩

theorem own : ownKnob Try.prog.godebug = none := by kernel_rfl
theorem laidOut : laidOutB Try.prog = true := by kernel_rfl
theorem laid_met (os : Os) : laidMetH Try.prog Rows.netJoinsUptoRow.laid ((World.holding Try.prog os ⟨#[], #[], []⟩).forCall (fun _ _ => 0) ⟨#[], #[.slice none 0 0, .slice none 0 0, .agg #[.int .i64 0, .int .i64 0, .slice none 0 0], .agg #[.int .i64 0, .int .i64 0, .slice none 0 0]], []⟩).memory :=
  laidMetH_nil _ _
theorem reads (os : Os) {H : Type} (enc : TypeId × Value → H) : ∃ places, DataW.whole enc Try.prog ((World.holding Try.prog os ⟨#[], #[], []⟩).forCall (fun _ _ => 0) ⟨#[], #[.slice none 0 0, .slice none 0 0, .agg #[.int .i64 0, .int .i64 0, .slice none 0 0], .agg #[.int .i64 0, .int .i64 0, .slice none 0 0]], []⟩).memory Try.f5.params.toList Rows.netJoinsSpec.vars false (#[.slice none 0 0, .slice none 0 0, .agg #[.int .i64 0, .int .i64 0, .slice none 0 0], .agg #[.int .i64 0, .int .i64 0, .slice none 0 0]] : Array Value).toList 8 = some ([.nil, .nil, .agg [.lit (.int .i64 0), .lit (.int .i64 0), .nil], .agg [.lit (.int .i64 0), .lit (.int .i64 0), .nil]], [], places) :=
  ⟨[], by kernel_rfl⟩
set_option maxRecDepth 100000 in
set_option maxHeartbeats 1000000 in
theorem contract (H : Type) (enc : TypeId × Value → H) (W : World) (base : Nat) (args : Array Value) (ds gs : List (DataW H)) (before : List MemPlace)
    (hval0 : ∀ (j : Nat) t v, Try.f5.params[j]? = some t → args[j]? = some v → Value.okWide Try.prog W .any base t v)
    (hW : DataW.Whole enc Try.prog Try.f5.params.toList Rows.netJoinsSpec.vars false W args.toList ds gs before) (hk : Rows.uptoBulkAll (ds ++ gs) ≤ 1048576) :
    Calls Try.prog 5 args W fun e W' => ∃ v, e = .returned v ∧ Rows.netJoinsSpec.post enc Try.prog Try.f5 false true false false W args v W' := by
  have hval := hval0
  have hW' := hW
  obtain ⟨p, q, hA0, hV, rfl, hfz, hnd⟩ := hW
  have hA : DataW.TrodAll enc Try.prog W 0 (fun _ => true) true Try.f5.params.toList args.toList ds p := hA0
  rw [Try.params5] at hA hval
  obtain ⟨v0, vs0, d0, ds0, p0, q0, hargs, rfl, rfl, h0, r0⟩ := trodAll_cons hA
  obtain ⟨v1, vs1, d1, ds1, p1, q1, rfl, rfl, rfl, h1, r1⟩ := trodAll_cons r0
  obtain ⟨v2, vs2, d2, ds2, p2, q2, rfl, rfl, rfl, h2, r2⟩ := trodAll_cons r1
  obtain ⟨v3, vs3, d3, ds3, p3, q3, rfl, rfl, rfl, h3, r3⟩ := trodAll_cons r2
  obtain ⟨rfl, rfl, rfl⟩ := trodAll_nil r3
  obtain rfl : args = #[v0, v1, v2, v3] := by cases args; simp_all
  obtain ⟨rfl, rfl⟩ := trodVars_none hV
  simp only [List.append_nil, List.cons_append, List.nil_append, Rows.uptoBulkAll] at hk
  have k0 := h0
  have lt0 : ∀ x ∈ p0, x.block < W.heap.size := by obtain ⟨m, hm⟩ := k0; exact DataW.trod_lt m _ _ _ hm
  have k1 := h1
  have lt1 : ∀ x ∈ p1, x.block < W.heap.size := by obtain ⟨m, hm⟩ := k1; exact DataW.trod_lt m _ _ _ hm
  have k2 := h2
  have lt2 : ∀ x ∈ p2, x.block < W.heap.size := by obtain ⟨m, hm⟩ := k2; exact DataW.trod_lt m _ _ _ hm
  have k3 := h3
  have lt3 : ∀ x ∈ p3, x.block < W.heap.size := by obtain ⟨m, hm⟩ := k3; exact DataW.trod_lt m _ _ _ hm
  obtain ⟨a0, w0, z0⟩ := open_lLayer_upto (hval 0 22 v0 rfl rfl) h0
  obtain ⟨a1, w1, z1⟩ := open_lLayer_upto (hval 1 22 v1 rfl rfl) h1
  obtain ⟨a2, w2, z2⟩ := open_Matrix_upto (hval 2 28 v2 rfl rfl) h2
  obtain ⟨a3, w3, z3⟩ := open_Matrix_upto (hval 3 28 v3 rfl rfl) h3
  clear hA0 hval0
  refine (walk a0 v0 a1 v1 a2 v2 a3 v3 W w0 w1 w2 w3 (by first | omega | (simp only [Rows.uptoBulk] at hk; omega))).mono fun e W' ⟨he, bel⟩ => ?_
  subst he
  exact ⟨_, rfl, _, _, _, [], _, [], hW', trodAll_mk1 (shut_bool Try.underlying4 _), (trodAll_cons_mk (Below.trod laidOut (by kernel_rfl) (of_decide_eq_true (by kernel_rfl)) k0 bel lt0) (trodAll_cons_mk (Below.trod laidOut (by kernel_rfl) (of_decide_eq_true (by kernel_rfl)) k1 bel lt1) (trodAll_cons_mk (Below.trod laidOut (by kernel_rfl) (of_decide_eq_true (by kernel_rfl)) k2 bel lt2) (trodAll_cons_mk (Below.trod laidOut (by kernel_rfl) (of_decide_eq_true (by kernel_rfl)) k3 bel lt3) trodAll_mk0)))), rfl, bel.frame _, fun h => by cases h⟩

set_option maxRecDepth 100000 in
theorem lifted (os : Os) (started : os.Started) (H : Type) (enc : TypeId × Value → H) (F : Stop.Interp) :
    ReturnsInHanded {} Try.checked os 5 .any ((Rows.OpenSpec.upto Rows.netJoinsSpec).preRow enc Try.prog Try.f5 Rows.netJoinsUptoRow.domain false Rows.netJoinsUptoRow.laid) (((Rows.OpenSpec.upto Rows.netJoinsSpec).at F).post enc Try.prog Try.f5 false true false false) := by
  obtain ⟨places, hx⟩ := reads os enc
  refine returnsInHanded_of_row (C := Try.checked) (s := Rows.OpenSpec.upto Rows.netJoinsSpec) own started (by kernel_rfl) Try.func5
    (witness_row_at (enc := enc) (C := Try.checked) false (World.holding Try.prog os ⟨#[], #[], []⟩) #[.slice none 0 0, .slice none 0 0, .agg #[.int .i64 0, .int .i64 0, .slice none 0 0], .agg #[.int .i64 0, .int .i64 0, .slice none 0 0]] rfl (by kernel_rfl) (by kernel_rfl) (by kernel_rfl)
      (OpenSpec.preRow_of_cond 8 hx (by kernel_rfl) (fun k hk => by cases hk; kernel_rfl) (by kernel_rfl) (laid_met os))) ?_
  intro W base args ds gs before hval hW _ hcond _ hL _ _
  exact contract H enc W base args ds gs before hval hW (of_decide_eq_true (hcond _ rfl))

theorem said : Rows.NetJoinsUptoSaid :=
  OpenClaim.holds_of_cond 5 Try.f5 rfl rfl rfl rfl rfl rfl rfl ⟨rfl, rfl, rfl, rfl, rfl⟩ rfl rfl rfl rfl rfl (by kernel_rfl) Try.func5 (by kernel_rfl)
    (of_decide_eq_true (by kernel_rfl)) (by unfold Func.isWrapper; first | (rw [if_pos (by decide +kernel)]; kernel_rfl) | (rw [if_neg (by decide +kernel)]; exact ⟨rfl, rfl⟩))
    (fun os started H enc _ F => by rw [OpenClaim.pre_eq_preRow]; exact lifted os started H enc F)
theorem proved : Rows.NetJoinsUptoSaid := said
#print axioms proved

end Go.Proofs.Ytikcdjibflleeaa.lawNetJoins
