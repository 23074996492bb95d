/- Texts joined: RLay6. -/
import Derived.Test.YtgknjikjjklaiaaGreatDoorJ41
import Derived.Test.YtgknjikjjklaiaaGreatDoorJ04
import Derived.Test.YtgknjikjjklaiaaGreatDoorJ19
section
set_option linter.unusedVariables false
set_option linter.unusedSimpArgs false
namespace Gal
theorem pad_skip {g : Nat → Int} {n k : Nat} (hg : g k = 0) : pad g n k = pad g n (k + 1) := by
 refine eq_of_ix (by rw [pad_length, pad_length]) fun j hj => ?_
 rw [pad_length] at hj
 rw [pad_ix hj, pad_ix hj]
 by_cases h : j < k
 ·rw [if_pos h, if_pos (by omega)]
 ·rw [if_neg h]
  by_cases h2 : j = k
  ·subst h2; rw [if_pos (by omega), hg]
  ·rw [if_neg (by omega)]
end Gal
namespace Go.Proofs.YtgknjikjjklaiaaGreatDoor
open Go.RowKit Gal
set_option linter.unusedSectionVars false
set_option maxRecDepth 100000
set_option maxHeartbeats 8000000
theorem refBackOf_2 (W B x g : Mat)
  (a a' a2 a3 : Option Addr) (n n' n2 n3 k k' k2 k3 b b' b2 b3 o o' o2 o3 : Nat) (w : World) (x0 : IntsAt w a n k b o W.cells) (x1 : IntsAt w a' n' k' b' o' B.cells) (x2 : IntsAt w a2 n2 k2 b2 o2 x.cells) (x3 : IntsAt w a3 n3 k3 b3 o3 g.cells)
  (hg : Backs ⟨2, W, B⟩ x g) :
  Calls Tryz.prog 41 #[.agg #[.int .i64 2, .int .i64 W.rows, .int .i64 W.cols, .slice a n k, .int .i64 B.rows, .int .i64 B.cols, .slice a' n' k'], .agg #[.int .i64 x.rows, .int .i64 x.cols, .slice a2 n2 k2], .agg #[.int .i64 g.rows, .int .i64 g.cols, .slice a3 n3 k3]] w fun e w' =>
   ∃ v d, e = .returned (.tuple #[v, d]) ∧ MatNew w.heap.size w' v (Lay.back ⟨2, W, B⟩ x g) ∧ GrdNew w.heap.size w' d (Lay.grad ⟨2, W, B⟩ x g) ∧ Below w.heap.size w w'
 := by
 have hcol : g.cols = x.cols := by rw [hg.cols]; exact if_neg (by simp)
 have hrow := hg.rows
 have HGM := Lib.hid hg.mat
 obtain ⟨R, K, xs, rfl, hR, hK, hla, _⟩ := fault_form' hg.goes.mat
 obtain ⟨R', K', ys, rfl, _, _, hlb, _⟩ := fault_form' hg.mat
 dsimp only at x2 x3 hcol hrow
 obtain rfl : R' = R := by omega
 obtain rfl : K' = K := by omega
 obtain rfl : R' * K' = n2 := by rw [← hla]; exact x2.len
 obtain rfl : R' * K' = n3 := by rw [← hlb]; exact x3.len
 have hrk : R' * K' ≤ 288 := Nat.mul_le_mul hR hK
 have hbk : Lay.back ⟨2, W, B⟩ ⟨R', K', xs⟩ ⟨R', K', ys⟩ = ⟨R', K', upto (fun t => if 0 < ix xs t then ix ys t else 0) (R' * K')⟩ := by simp [Lay.back, hla]
 have hgr : Lay.grad ⟨2, W, B⟩ ⟨R', K', xs⟩ ⟨R', K', ys⟩ = Grd.none := by simp [Lay.grad]
 rw [hbk, hgr]
 clear hbk hgr hg hla hlb hrow hcol
 have k2' : 0 < R' * K' → b2 < w.heap.size := x2.lt
 have k3' : 0 < R' * K' → b3 < w.heap.size := x3.lt
 go_enter Tryz.func41, Tryz.ntmps41
 go_wp2_with fail
 refine (blank_any R' K' (by omega) (by omega) _).mono ?_
 rintro e w1 ⟨bd, rfl, hbb, hB, hb1⟩
 have B0 := ((show Box _ w.heap.size [.int .i64 2, .int .i64 W.rows, .int .i64 W.cols, .slice a n k, .int .i64 B.rows, .int .i64 B.cols, .slice a' n' k'] 82 from Box.x0)).keep hb1
 have B0c := B0.cell
 have B0f := B0.thawed
 have B0z := B0.lt
 have B0k := lt_add B0z
 have B1 := ((show Box _ (w.heap.size + 1) [.int .i64 R', .int .i64 K', .slice a2 (R' * K') k2] 25 from Box.x0)).keep hb1
 have B1c := B1.cell
 have B1f := B1.thawed
 have B1z := B1.lt
 have B1k := lt_add B1z
 have B2 := ((show Box _ (w.heap.size + 1 + 1) [.int .i64 R', .int .i64 K', .slice a3 (R' * K') k3] 25 from Box.x0)).keep hb1
 have B2c := B2.cell
 have B2f := B2.thawed
 have B2z := B2.lt
 have B2k := lt_add B2z
 have B3 := ((show Box _ (w.heap.size + 1 + 1 + 1) [.int .i64 0, .int .i64 0, .slice none 0 0] 25 from Box.x0)).keep hb1
 have B3c := B3.cell
 have B3f := B3.thawed
 have B3z := B3.lt
 have B3k := lt_add B3z
 have B4 := ((show Box _ (w.heap.size + 1 + 1 + 1 + 1) [.int .i64 0, .int .i64 0, .slice none 0 0, .int .i64 0, .int .i64 0, .slice none 0 0] 84 from Box.x0)).keep hb1
 have B4c := B4.cell
 have B4f := B4.thawed
 have B4z := B4.lt
 have B4k := lt_add B4z
 have B5 := ((show Box _ (w.heap.size + 1 + 1 + 1 + 1 + 1) [.int .i64 0, .int .i64 0, .slice none 0 0, .int .i64 0, .int .i64 0, .slice none 0 0] 84 from Box.x0)).keep hb1
 have B5c := B5.cell
 have B5f := B5.thawed
 have B5z := B5.lt
 have B5k := lt_add B5z
 have hwl : Below w.heap.size w w1 := (Below.x1 hb1)
 have hzb : bd < w1.heap.size := hB.lt
 have hz1 := hb1.size
 simp at hz1 hbb
 have l2 : 0 < R' * K' → b2 < bd := fun h => by have := k2' h; omega
 have l3 : 0 < R' * K' → b3 < bd := fun h => by have := k3' h; omega
 have hkw1 : Below w.heap.size w w1 := (Below.x1 hb1)
 replace x2 := x2.keep hkw1
 replace x3 := x3.keep hkw1
 have hsw1 := hkw1.size
 go_wp2
 go_loopw [17] (fun i wr => ∃ t : Nat, t ≤ R' * K' ∧ i = .int .i64 t ∧ Far (· = bd) w1 wr ∧ Box wr (w1).heap.size [.int .i64 R', .int .i64 K', .slice (some ⟨bd, 0, none⟩) (R' * K') (R' * K')] 25 ∧
   Box wr bd ((pad (fun t => if 0 < ix xs t then ix ys t else 0) (R' * K') t).map (Value.int .i64)) 3) (fun i _ => R' * K' - (intOf i).toNat)
 case atStart => exact ⟨0, Nat.zero_le _, rfl, (Far.refl _ _).al _, Box.new _ _ _, by rw [pad_zero]; exact hB.alloc _⟩
 case round =>
  obtain ⟨t, hk, rfl, hfr, Bm, Bc⟩ := hrel
  have Bmc := Bm.cell
  have Bmf := Bm.thawed
  have Bmz := Bm.lt
  replace B0 := B0.farS hfr (by omega)
  have B0c := B0.cell
  have B0f := B0.thawed
  have B0z := B0.lt
  have B0k := lt_add B0z
  replace B1 := B1.farS hfr (by omega)
  have B1c := B1.cell
  have B1f := B1.thawed
  have B1z := B1.lt
  have B1k := lt_add B1z
  replace B2 := B2.farS hfr (by omega)
  have B2c := B2.cell
  have B2f := B2.thawed
  have B2z := B2.lt
  have B2k := lt_add B2z
  replace B3 := B3.farS hfr (by omega)
  have B3c := B3.cell
  have B3f := B3.thawed
  have B3z := B3.lt
  have B3k := lt_add B3z
  replace B4 := B4.farS hfr (by omega)
  have B4c := B4.cell
  have B4f := B4.thawed
  have B4z := B4.lt
  have B4k := lt_add B4z
  replace B5 := B5.farS hfr (by omega)
  have B5c := B5.cell
  have B5f := B5.thawed
  have B5z := B5.lt
  have B5k := lt_add B5z
  replace x2 := x2.farS hfr (by intro hn e; have := l2 hn; omega)
  replace x3 := x3.farS hfr (by intro hn e; have := l3 hn; omega)
  by_cases hlt : t < R' * K'
  ·obtain rfl := x2.ptr (by omega)
   obtain rfl := x3.ptr (by omega)
   have c0 := x2.cell t hlt
   have c1 := x3.cell t hlt
   have cc := Bc.icell (k := t) (by rw [pad_length]; exact hlt)
   rw [pad_ix hlt, if_neg (Nat.lt_irrefl _)] at cc
   have hltI : (t : Int) < (R' : Int) * K' := by rw [← Int.natCast_mul]; omega
   have cf := Bc.thawed t
   by_cases hpos : 0 < ix xs t
   ·have HP := Lib.hid hpos
    go_wp2_with fail
    refine wp_region_still_tail 9 (by kernel_rfl) (by kernel_rfl) ?_
    simp only [List.take_succ_cons, List.take_zero, List.drop_succ_cons, List.drop_zero]
    repeat (first | fail | still_step)
    refine wpStill_nil ?_
    go_wp2
    go_roundw
    case rel =>
     refine ⟨t + 1, by omega, by go_num, (hfr.drN _).st (fun _ => rfl) _, Bm.k, ?_⟩
     have hs := Bc.iset t (if 0 < ix xs t then ix ys t else 0)
     rw [pad_set (g := fun t => if 0 < ix xs t then ix ys t else 0) hlt, if_pos HP.out] at hs
     exact hs
    case measure => simp [intOf]; omega
   ·have HP := Lib.hid hpos
    go_wp2
    go_roundw
    case rel =>
     refine ⟨t + 1, by omega, by go_num, hfr, Bm, ?_⟩
     rw [← pad_skip (g := fun t => if 0 < ix xs t then ix ys t else 0) (if_neg HP.out)]
     exact Bc
    case measure => simp [intOf]; omega
  ·skip
   obtain rfl : t = R' * K' := by omega
   have hbl := Far.toBelow hwl hfr (by omega) (by rintro t rfl; omega)
   have ip := ints_pad Bc (by unfold maxLen; omega)
   have lb : 0 < R' * K' → w.heap.size + 1 + 1 + 1 + 1 + 1 < bd := fun _ => by omega
   go_wp2_with fail
   go_region_held3 (fun w' => w'.cell? ⟨w1.heap.size, 0, none⟩ = some (.int .i64 R') ∧ w'.cell? ⟨w1.heap.size, 1, none⟩ = some (.int .i64 K') ∧ w'.cell? ⟨w1.heap.size, 2, none⟩ = some (.slice (some ⟨bd, 0, none⟩) (R' * K') (R' * K')) ∧ w'.cell? ⟨w.heap.size + 1 + 1 + 1 + 1 + 1, 0, none⟩ = some (.int .i64 0) ∧ w'.cell? ⟨w.heap.size + 1 + 1 + 1 + 1 + 1, 1, none⟩ = some (.int .i64 0) ∧ w'.cell? ⟨w.heap.size + 1 + 1 + 1 + 1 + 1, 2, none⟩ = some (.slice none 0 0) ∧ w'.cell? ⟨w.heap.size + 1 + 1 + 1 + 1 + 1, 3, none⟩ = some (.int .i64 0) ∧ w'.cell? ⟨w.heap.size + 1 + 1 + 1 + 1 + 1, 4, none⟩ = some (.int .i64 0) ∧ w'.cell? ⟨w.heap.size + 1 + 1 + 1 + 1 + 1, 5, none⟩ = some (.slice none 0 0)) (exact cells36 (t := 25) (u := 84) Bm.k B5.k) (fail)
   all_goals (
    go_wp2
    refine bodyPost_ret (v := .tuple #[.agg #[.int .i64 R', .int .i64 K', .slice (some ⟨bd, 0, none⟩) (R' * K') (R' * K')], .agg #[.int .i64 0, .int .i64 0, .slice none 0 0, .int .i64 0, .int .i64 0, .slice none 0 0]]) ?_ rfl ⟨_, _, rfl, ?_, ?_, ?_⟩
    ·simp [results, Tryz.results41, go_sem, B3c, B4c, B3z, B4z]
    ·exact MatNew.mk (b := bd) (off := 0) (fun _ => by omega) (by repeat (first | (with_reducible first | exact ip | refine IntsAt.alloc ?_ _ | refine IntsAt.drewN ?_ _ | refine IntsAt.drew ?_ | (refine IntsAt.set ?_ ?_ _; rotate_left 1; (intro h0; have hq0 := lb h0; first | (dsimp only; omega) | omega | (simp; omega) | simp))) | exact ip))
    ·exact noGrd _ _
    ·exact (Below.y0 hbl))
theorem refBackOf_4 (W B x g : Mat)
  (a a' a2 a3 : Option Addr) (n n' n2 n3 k k' k2 k3 b b' b2 b3 o o' o2 o3 : Nat) (w : World) (x0 : IntsAt w a n k b o W.cells) (x1 : IntsAt w a' n' k' b' o' B.cells) (x2 : IntsAt w a2 n2 k2 b2 o2 x.cells) (x3 : IntsAt w a3 n3 k3 b3 o3 g.cells)
  (hg : Backs ⟨4, W, B⟩ x g) :
  Calls Tryz.prog 41 #[.agg #[.int .i64 4, .int .i64 W.rows, .int .i64 W.cols, .slice a n k, .int .i64 B.rows, .int .i64 B.cols, .slice a' n' k'], .agg #[.int .i64 x.rows, .int .i64 x.cols, .slice a2 n2 k2], .agg #[.int .i64 g.rows, .int .i64 g.cols, .slice a3 n3 k3]] w fun e w' =>
   ∃ v d, e = .returned (.tuple #[v, d]) ∧ MatNew w.heap.size w' v (Lay.back ⟨4, W, B⟩ x g) ∧ GrdNew w.heap.size w' d (Lay.grad ⟨4, W, B⟩ x g) ∧ Below w.heap.size w w'
 := by
 have hcol : g.cols = x.cols := by rw [hg.cols]; exact if_neg (by simp)
 have hrow := hg.rows
 have HGM := Lib.hid hg.mat
 obtain ⟨R, K, xs, rfl, hR, hK, hla, _⟩ := fault_form' hg.goes.mat
 obtain ⟨R', K', ys, rfl, _, _, hlb, _⟩ := fault_form' hg.mat
 dsimp only at x2 x3 hcol hrow
 obtain rfl : R' = R := by omega
 obtain rfl : K' = K := by omega
 obtain rfl : R' * K' = n2 := by rw [← hla]; exact x2.len
 obtain rfl : R' * K' = n3 := by rw [← hlb]; exact x3.len
 have hrk : R' * K' ≤ 288 := Nat.mul_le_mul hR hK
 have hbk : Lay.back ⟨4, W, B⟩ ⟨R', K', xs⟩ ⟨R', K', ys⟩ = ⟨R', K', upto (fun t => ix ys t) (R' * K')⟩ := by simp [Lay.back, hlb]
 have hgr : Lay.grad ⟨4, W, B⟩ ⟨R', K', xs⟩ ⟨R', K', ys⟩ = ⟨Mat.none, matSums ⟨R', K', ys⟩⟩ := by simp [Lay.grad]
 rw [hbk, hgr]
 clear hbk hgr hg hla hlb hrow hcol
 have k2' : 0 < R' * K' → b2 < w.heap.size := x2.lt
 have k3' : 0 < R' * K' → b3 < w.heap.size := x3.lt
 go_enter Tryz.func41, Tryz.ntmps41
 go_wp2_with fail
 refine (refMatSums_all ⟨R', K', ys⟩ _ _ (MatAt.mk (x3.alloc _ |>.alloc _ |>.alloc _ |>.alloc _ |>.alloc _ |>.alloc _)) HGM.out).mono ?_
 rintro e w1 ⟨v4, rfl, ⟨c4, m4, p4, q4, r4, rfl, hn4, y4⟩, hb1⟩
 have B0 := ((show Box _ w.heap.size [.int .i64 4, .int .i64 W.rows, .int .i64 W.cols, .slice a n k, .int .i64 B.rows, .int .i64 B.cols, .slice a' n' k'] 82 from Box.x0)).keep hb1
 have B0c := B0.cell
 have B0f := B0.thawed
 have B0z := B0.lt
 have B0k := lt_add B0z
 have B1 := ((show Box _ (w.heap.size + 1) [.int .i64 R', .int .i64 K', .slice a2 (R' * K') k2] 25 from Box.x0)).keep hb1
 have B1c := B1.cell
 have B1f := B1.thawed
 have B1z := B1.lt
 have B1k := lt_add B1z
 have B2 := ((show Box _ (w.heap.size + 1 + 1) [.int .i64 R', .int .i64 K', .slice a3 (R' * K') k3] 25 from Box.x0)).keep hb1
 have B2c := B2.cell
 have B2f := B2.thawed
 have B2z := B2.lt
 have B2k := lt_add B2z
 have B3 := ((show Box _ (w.heap.size + 1 + 1 + 1) [.int .i64 0, .int .i64 0, .slice none 0 0] 25 from Box.x0)).keep hb1
 have B3c := B3.cell
 have B3f := B3.thawed
 have B3z := B3.lt
 have B3k := lt_add B3z
 have B4 := ((show Box _ (w.heap.size + 1 + 1 + 1 + 1) [.int .i64 0, .int .i64 0, .slice none 0 0, .int .i64 0, .int .i64 0, .slice none 0 0] 84 from Box.x0)).keep hb1
 have B4c := B4.cell
 have B4f := B4.thawed
 have B4z := B4.lt
 have B4k := lt_add B4z
 have B5 := ((show Box _ (w.heap.size + 1 + 1 + 1 + 1 + 1) [.int .i64 0, .int .i64 0, .slice none 0 0, .int .i64 0, .int .i64 0, .slice none 0 0] 84 from Box.x0)).keep hb1
 have B5c := B5.cell
 have B5f := B5.thawed
 have B5z := B5.lt
 have B5k := lt_add B5z
 have hkw1 : Below w.heap.size w w1 := (Below.x1 hb1)
 replace x2 := x2.keep hkw1
 replace x3 := x3.keep hkw1
 have hsw1 := hkw1.size
 have hs4 : w.heap.size + 1 + 1 + 1 + 1 + 1 < w1.heap.size := B5z
 have e4 : 0 < m4 → w.heap.size + 1 + 1 + 1 + 1 + 1 < q4 := fun h => by have := hn4 h; simp at this; omega
 have y4' := y4
 go_wp2_with fail
 refine (blank_any R' K' (by omega) (by omega) _).mono ?_
 rintro e w2 ⟨bd, rfl, hbb, hB, hb2⟩
 have E5 : Box w2 (w.heap.size + 1 + 1 + 1 + 1 + 1) [.int .i64 0, .int .i64 0, .slice none 0 0, .int .i64 (matSums ⟨R', K', ys⟩).rows, .int .i64 (matSums ⟨R', K', ys⟩).cols, .slice c4 m4 p4] 84 := (((B5.set 3 _).set 4 _).set 5 _).keep hb2
 have hfr : Far (· = w.heap.size + 1 + 1 + 1 + 1 + 1) w1 w2 := ((((Far.refl (· = w.heap.size + 1 + 1 + 1 + 1 + 1) w1).st (a := ⟨w.heap.size + 1 + 1 + 1 + 1 + 1, 3, none⟩) (fun _ => rfl) _).st (a := ⟨w.heap.size + 1 + 1 + 1 + 1 + 1, 4, none⟩) (fun _ => rfl) _).st (a := ⟨w.heap.size + 1 + 1 + 1 + 1 + 1, 5, none⟩) (fun _ => rfl) _).go hb2
 clear B5 B5c B5f B5z B5k
 replace B0 := B0.farS hfr (by omega)
 have B0c := B0.cell
 have B0f := B0.thawed
 have B0z := B0.lt
 have B0k := lt_add B0z
 replace B1 := B1.farS hfr (by omega)
 have B1c := B1.cell
 have B1f := B1.thawed
 have B1z := B1.lt
 have B1k := lt_add B1z
 replace B2 := B2.farS hfr (by omega)
 have B2c := B2.cell
 have B2f := B2.thawed
 have B2z := B2.lt
 have B2k := lt_add B2z
 replace B3 := B3.farS hfr (by omega)
 have B3c := B3.cell
 have B3f := B3.thawed
 have B3z := B3.lt
 have B3k := lt_add B3z
 replace B4 := B4.farS hfr (by omega)
 have B4c := B4.cell
 have B4f := B4.thawed
 have B4z := B4.lt
 have B4k := lt_add B4z
 replace x2 := x2.farS hfr (by intro h e; have := k2' h; omega)
 replace x3 := x3.farS hfr (by intro h e; have := k3' h; omega)
 replace y4 := y4.farS hfr (by intro h e; have := e4 h; omega)
 have hs5 := hfr.size
 clear hfr
 have hwl : Below w.heap.size w w2 := (Below.x2 hb2 hb1)
 have hzb : bd < w2.heap.size := hB.lt
 have hz1 := hb2.size
 try simp [World.setCell] at hz1
 try simp [World.setCell] at hbb
 have l2 : 0 < R' * K' → b2 < bd := fun h => by have := k2' h; omega
 have l3 : 0 < R' * K' → b3 < bd := fun h => by have := k3' h; omega
 have l4 : 0 < m4 → q4 < bd := fun h => by have := y4'.lt h; omega
 go_wp2
 go_loopw [17] (fun i wr => ∃ t : Nat, t ≤ R' * K' ∧ i = .int .i64 t ∧ Far (· = bd) w2 wr ∧ Box wr (w2).heap.size [.int .i64 R', .int .i64 K', .slice (some ⟨bd, 0, none⟩) (R' * K') (R' * K')] 25 ∧
   Box wr bd ((pad (fun t => ix ys t) (R' * K') t).map (Value.int .i64)) 3) (fun i _ => R' * K' - (intOf i).toNat)
 case atStart => exact ⟨0, Nat.zero_le _, rfl, (Far.refl _ _).al _, Box.new _ _ _, by rw [pad_zero]; exact hB.alloc _⟩
 case round =>
  obtain ⟨t, hk, rfl, hfr, Bm, Bc⟩ := hrel
  have Bmc := Bm.cell
  have Bmf := Bm.thawed
  have Bmz := Bm.lt
  replace B0 := B0.farS hfr (by omega)
  have B0c := B0.cell
  have B0f := B0.thawed
  have B0z := B0.lt
  have B0k := lt_add B0z
  replace B1 := B1.farS hfr (by omega)
  have B1c := B1.cell
  have B1f := B1.thawed
  have B1z := B1.lt
  have B1k := lt_add B1z
  replace B2 := B2.farS hfr (by omega)
  have B2c := B2.cell
  have B2f := B2.thawed
  have B2z := B2.lt
  have B2k := lt_add B2z
  replace B3 := B3.farS hfr (by omega)
  have B3c := B3.cell
  have B3f := B3.thawed
  have B3z := B3.lt
  have B3k := lt_add B3z
  replace B4 := B4.farS hfr (by omega)
  have B4c := B4.cell
  have B4f := B4.thawed
  have B4z := B4.lt
  have B4k := lt_add B4z
  replace E5 := E5.farS hfr (by omega)
  have E5c := E5.cell
  have E5f := E5.thawed
  have E5z := E5.lt
  have E5k := lt_add E5z
  replace x2 := x2.farS hfr (by intro hn e; have := l2 hn; omega)
  replace x3 := x3.farS hfr (by intro hn e; have := l3 hn; omega)
  replace y4 := y4.farS hfr (by intro h e; have := l4 h; omega)
  by_cases hlt : t < R' * K'
  ·obtain rfl := x2.ptr (by omega)
   obtain rfl := x3.ptr (by omega)
   have c0 := x2.cell t hlt
   have c1 := x3.cell t hlt
   have cc := Bc.icell (k := t) (by rw [pad_length]; exact hlt)
   rw [pad_ix hlt, if_neg (Nat.lt_irrefl _)] at cc
   have hltI : (t : Int) < (R' : Int) * K' := by rw [← Int.natCast_mul]; omega
   have cf := Bc.thawed t
   go_wp2_with fail
   refine wp_region_still_tail 9 (by kernel_rfl) (by kernel_rfl) ?_
   simp only [List.take_succ_cons, List.take_zero, List.drop_succ_cons, List.drop_zero]
   repeat (first | fail | still_step)
   refine wpStill_nil ?_
   go_wp2
   go_roundw
   case rel =>
    refine ⟨t + 1, by omega, by go_num, (hfr.drN _).st (fun _ => rfl) _, Bm.k, ?_⟩
    have hs := Bc.iset t (ix ys t)
    rw [pad_set (g := fun t => ix ys t) hlt] at hs
    exact hs
   case measure => simp [intOf]; omega
  ·skip
   obtain rfl : t = R' * K' := by omega
   have hbl := Far.toBelow hwl hfr (by omega) (by rintro t rfl; omega)
   have ip := ints_pad Bc (by unfold maxLen; omega)
   have lb : 0 < R' * K' → w.heap.size + 1 + 1 + 1 + 1 + 1 < bd := fun _ => by omega
   go_wp2_with fail
   go_region_held3 (fun w' => w'.cell? ⟨w2.heap.size, 0, none⟩ = some (.int .i64 R') ∧ w'.cell? ⟨w2.heap.size, 1, none⟩ = some (.int .i64 K') ∧ w'.cell? ⟨w2.heap.size, 2, none⟩ = some (.slice (some ⟨bd, 0, none⟩) (R' * K') (R' * K')) ∧ w'.cell? ⟨w.heap.size + 1 + 1 + 1 + 1 + 1, 0, none⟩ = some (.int .i64 0) ∧ w'.cell? ⟨w.heap.size + 1 + 1 + 1 + 1 + 1, 1, none⟩ = some (.int .i64 0) ∧ w'.cell? ⟨w.heap.size + 1 + 1 + 1 + 1 + 1, 2, none⟩ = some (.slice none 0 0) ∧ w'.cell? ⟨w.heap.size + 1 + 1 + 1 + 1 + 1, 3, none⟩ = some (.int .i64 (matSums ⟨R', K', ys⟩).rows) ∧ w'.cell? ⟨w.heap.size + 1 + 1 + 1 + 1 + 1, 4, none⟩ = some (.int .i64 (matSums ⟨R', K', ys⟩).cols) ∧ w'.cell? ⟨w.heap.size + 1 + 1 + 1 + 1 + 1, 5, none⟩ = some (.slice c4 m4 p4)) (exact cells36 (t := 25) (u := 84) Bm.k E5.k) (fail)
   all_goals (
    go_wp2
    refine bodyPost_ret (v := .tuple #[.agg #[.int .i64 R', .int .i64 K', .slice (some ⟨bd, 0, none⟩) (R' * K') (R' * K')], .agg #[.int .i64 0, .int .i64 0, .slice none 0 0, .int .i64 (matSums ⟨R', K', ys⟩).rows, .int .i64 (matSums ⟨R', K', ys⟩).cols, .slice c4 m4 p4]]) ?_ rfl ⟨_, _, rfl, ?_, ?_, ?_⟩
    ·simp [results, Tryz.results41, go_sem, B3c, B4c, B3z, B4z]
    ·exact MatNew.mk (b := bd) (off := 0) (fun _ => by omega) (by repeat (first | (with_reducible first | exact ip | refine IntsAt.alloc ?_ _ | refine IntsAt.drewN ?_ _ | refine IntsAt.drew ?_ | (refine IntsAt.set ?_ ?_ _; rotate_left 1; (intro h0; have hq0 := lb h0; first | (dsimp only; omega) | omega | (simp; omega) | simp))) | exact ip))
    ·skip
     exact ⟨none, 0, 0, 0, 0, c4, m4, p4, q4, r4, rfl, fun h => absurd h (Nat.lt_irrefl _), noInts _, fun h => by have := e4 h; omega, (by repeat (first | (with_reducible first | exact y4 | refine IntsAt.alloc ?_ _ | refine IntsAt.drewN ?_ _ | refine IntsAt.drew ?_ | (refine IntsAt.set ?_ ?_ _; rotate_left 1; (intro h0; have hq0 := e4 h0; first | (dsimp only; omega) | omega | (simp; omega) | simp))) | exact y4))⟩
    ·exact (Below.y0 hbl))
theorem refBackOf_any (l : Lay) (x g : Mat) (v u t : Value) (w : World) (h : LayAt w v l) (hu : MatAt w u x) (ht : MatAt w t g) (hf : l.backFault x g = 0) :
  Calls Tryz.prog 41 #[v, u, t] w fun e w' => ∃ y d, e = .returned (.tuple #[y, d]) ∧ MatNew w.heap.size w' y (l.back x g) ∧ GrdNew w.heap.size w' d (l.grad x g) ∧ Below w.heap.size w w' := by
 obtain ⟨a, n, k, b, o, a', n', k', b', o', rfl, x0, x1⟩ := h
 obtain ⟨a2, n2, k2, b2, o2, rfl, x2⟩ := hu
 obtain ⟨a3, n3, k3, b3, o3, rfl, x3⟩ := ht
 obtain ⟨f1, f2, f3, f4, f5⟩ := Lay.backFault_ok hf
 obtain ⟨g1, g2, g3⟩ := Lay.goFault_ok f1
 obtain ⟨h1, h2, _, _, _⟩ := Lay.fault_ok g1
 obtain ⟨kd, W, B⟩ := l
 dsimp only at h1 h2 x0 x1 ⊢
 rcases (by omega : kd = 1 ∨ kd = 2 ∨ kd = 3 ∨ kd = 4) with rfl | rfl | rfl | rfl
 ·exact refBackOf_1 W B x g _ _ _ _ _ _ _ _ _ _ _ _ _ _ _ _ _ _ _ _ w x0 x1 x2 x3 ⟨⟨g1, g2, g3⟩, f2, f3, f4, f5⟩
 ·exact refBackOf_2 W B x g _ _ _ _ _ _ _ _ _ _ _ _ _ _ _ _ _ _ _ _ w x0 x1 x2 x3 ⟨⟨g1, g2, g3⟩, f2, f3, f4, f5⟩
 ·exact refBackOf_3 W B x g _ _ _ _ _ _ _ _ _ _ _ _ _ _ _ _ _ _ _ _ w x0 x1 x2 x3 ⟨⟨g1, g2, g3⟩, f2, f3, f4, f5⟩
 ·exact refBackOf_4 W B x g _ _ _ _ _ _ _ _ _ _ _ _ _ _ _ _ _ _ _ _ w x0 x1 x2 x3 ⟨⟨g1, g2, g3⟩, f2, f3, f4, f5⟩
end Go.Proofs.YtgknjikjjklaiaaGreatDoor
end
