/- Texts joined: Train7, Shap, Cell7. -/
import Derived.Test.YtgknjikjjklaiaaGreatDoorJ37
import Derived.Test.YtgknjikjjklaiaaGreatDoorJ38
import Derived.Test.YtgknjikjjklaiaaGreatDoorJ23
import Derived.Deep.RegionHeld3
import Derived.Deep.CutBlock
import Derived.Deep.DeepCutAuto
import Derived.Test.YtgknjikjjklaiaaGreatDoorJ03
import Derived.Test.YtgknjikjjklaiaaGreatDoorJ05
section
set_option linter.unusedVariables false
set_option linter.unusedSimpArgs false
set_option linter.unusedSectionVars false
set_option maxRecDepth 100000
namespace Gal
open Go Go.RowKit
theorem cells_1_6 {w : World} {p q : Nat} {T U : TypeId} {z0 z1 z2 x0 x1 x2 x3 x4 x5 : Value} (h : Box w p [z0, z1, z2] T) (m : Box w q [x0, x1, x2, x3, x4, x5] U) :
  w.cell? ⟨p, 1, none⟩ = some z1 ∧ w.cell? ⟨q, 0, none⟩ = some x0 ∧ w.cell? ⟨q, 1, none⟩ = some x1 ∧ w.cell? ⟨q, 2, none⟩ = some x2 ∧ w.cell? ⟨q, 3, none⟩ = some x3 ∧ w.cell? ⟨q, 4, none⟩ = some x4 ∧ w.cell? ⟨q, 5, none⟩ = some x5 :=
 ⟨h.cell 1, m.cell 0, m.cell 1, m.cell 2, m.cell 3, m.cell 4, m.cell 5⟩
theorem fault_cells {m : Mat} (h : m.fault = 0) : m.cells.length * 8 ≤ 140737488355328 := by have := (fault_bd h).2.2; omega
end Gal
namespace Go.Proofs.YtgknjikjjklaiaaGreatDoor
open Go.RowKit Gal
set_option maxHeartbeats 8000000
def notV (q r b : Nat) : Prop := b ≠ q ∧ b ≠ r
section
variable (s : Sta) (l : List Bat) (p ln kp : Int) (F G H : Nat → Prop) (a0 a1 aL : Option Addr) (n n1 k0 k1 b0 b1 o0 o1 L kL bL oL : Nat) (w : World) (h0 : RowAt Form.lay w F a0 n k0 b0 o0 s.N) (h1 : RowAt Form.grd w G a1 n1 k1 b1 o1 s.V) (hl : RowAt Form.bat w H aL L kL bL oL l)
include h0 h1 hl
theorem trainAll_none (hp : L = 0) :
  Calls Tryz.prog 21 #[.agg #[.slice a0 n k0, .slice a1 n1 k1, .int .i64 s.steps], .slice aL L kL, .int .i64 p, .agg #[.int .i64 ln, .int .i64 kp]] w (AllEnd w s l p ln kp)
 := by
 have HAF : Hid (allFault s l p ln kp = s.fault) := Lib.hid (by unfold allFault; rw [if_neg (by rw [hl.len]; omega), if_pos (by rw [hl.len]; omega)])
 have HLL := Lib.hid hl.len
 subst hp
 clear hl
 by_cases hf : s.fault = 0
 ·have HF := Lib.hid hf
  obtain ⟨hn12, hst0, hst1, hlf, hvl, hvf⟩ := Sta.fault_ok hf
  have hl0 := h0.len
  have hl1 := h1.len
  obtain rfl : n1 = n := by omega
  have hn : n1 ≤ 12 := by omega
  have HZM : Hid (∀ i, i < n1 → (lx s.N i).W.cells.length * 8 ≤ 140737488355328 ∧ (lx s.N i).B.cells.length * 8 ≤ 140737488355328) := Lib.hid (fun i hi => by
   obtain ⟨_, _, e3, e4, _⟩ := Lay.fault_ok (hlf i (by omega))
   exact ⟨fault_cells e3, fault_cells e4⟩)
  have HVM : Hid (∀ i, i < n1 → (gx s.V i).W.cells.length * 8 ≤ 140737488355328 ∧ (gx s.V i).B.cells.length * 8 ≤ 140737488355328) := Lib.hid (fun i hi => by
   obtain ⟨e1, e2, _⟩ := hvf i (by omega)
   exact ⟨fault_cells e1, fault_cells e2⟩)
  have HVL := Lib.hid hl1
  have HNL := Lib.hid hl0
  clear hf hn12 hst0 hst1 hlf hvl hvf hl0 hl1
  go_enter Tryz.func21, Tryz.ntmps21
  obtain ⟨w3, hw3⟩ : ∃ w3, ((w.alloc (.cells #[.slice a0 n1 k0, .slice a1 n1 k1, .int .i64 s.steps] 53)).alloc (.cells #[.int .i64 ln, .int .i64 kp] 51)).alloc (.cells #[.slice none 0 0, .slice none 0 0, .int .i64 0] 53) = w3 := ⟨_, rfl⟩
  have hb3 : Below w.heap.size w w3 := by rw [← hw3]; exact Below.x0
  have B4 : Box w3 w.heap.size [.slice a0 n1 k0, .slice a1 n1 k1, .int .i64 s.steps] 53 := by rw [← hw3]; exact Box.x0
  have B8 : Box w3 (w.heap.size + 1 + 1) [.slice none 0 0, .slice none 0 0, .int .i64 0] 53 := by rw [← hw3]; exact Box.x0
  have HW3 := Lib.hid hw3
  replace h0 := h0.keep hb3
  replace h1 := (h1.wide (G := fun b => b < w.heap.size) (fun _ _ h => h)).keep hb3
  have c40 := B4.cell 0
  have c41 := B4.cell 1
  have c42 := B4.cell 2
  clear hw3
  go_wp2_with fail
  rw [HW3.out]
  refine (trainCheck_any s F _ _ _ _ _ _ _ _ _ _ _ _ h0 h1).mono ?_
  rintro e w1 ⟨rfl, hb1⟩
  rw [errV_nil HF.out]
  have hbw1 : Below w.heap.size w w1 := hb3.trans (hb1.mono hb3.size)
  replace B4 := B4.keep hb1
  replace B8 := B8.keep hb1
  have HB8 := Lib.hid B8.lt
  replace h0 := h0.keep hb1
  replace h1 := h1.keep hb1
  replace c40 := B4.cell 0
  replace c41 := B4.cell 1
  replace c42 := B4.cell 2
  go_wp2_with fail
  refine (trainBegin_loose s.N F _ _ _ _ _ _ h0 HZM.out (by omega)).mono ?_
  rintro e w2 ⟨vB, rfl, hb2, aN, nN, kN, bN, aV, nV, kV, bV, rfl, r0, r1, rL⟩
  have hkw2 : Below w1.heap.size w1 w2 := (Below.x1 hb2)
  replace B4 := B4.keep hkw2
  replace B4c := B4.cell
  replace B4f := B4.thawed
  replace B4z := B4.lt
  replace B4k := lt_add B4z
  replace B8 := B8.keep hkw2
  replace B8c := B8.cell
  replace B8f := B8.thawed
  replace B8z := B8.lt
  replace B8k := lt_add B8z
  replace h0 := h0.keep hkw2
  replace h1 := h1.keep hkw2
  have hsw2 := hkw2.size
  have hbw2 : Below w.heap.size w w2 := (Below.y1 hb2 hbw1)
  obtain rfl : n1 = nN := by have h8 : s.N.length = nN := r0.len; have := HNL.out; omega
  obtain rfl : n1 = nV := by have h8 : (zeroNet s.N).length = nV := r1.len; rw [zeroNet_length] at h8; have := HNL.out; omega
  have hbVz : 0 < n1 → bV < w2.heap.size := fun hn => heap_lt (rL hn).2.choose_spec
  have hbVn : 0 < n1 → w1.heap.size ≤ bV := fun hn => (rL hn).1
  have hN1 := hb1.size
  have HZ8 : Hid (w.heap.size + 1 + 1 < w1.heap.size) := Lib.hid (by have := HB8.out; exact this)
  have hz8 := B8.lt
  have hz12 := hb2.size
  have hxL : ∃ cs : List Value, (0 < n1 → Box w2 bV cs 84) ∧ (0 < n1 → n1 * 6 ≤ cs.length) := by
   rcases Nat.eq_zero_or_pos n1 with h | h
   ·exact ⟨[], fun hh => by omega, fun hh => by omega⟩
   ·obtain ⟨_, cs, hcs⟩ := rL h
    refine ⟨cs.toList, fun _ => by unfold Box; simpa using hcs, fun _ => ?_⟩
    obtain ⟨c, hr, hc⟩ := r1.cell (n1 - 1) (gx (zeroNet s.N) (n1 - 1)) (gx_get (by rw [r1.len]; omega))
    have h5 := hc 5 (by show 5 < 6; omega)
    have hcl := Form.grd.len hr
    have h6 : Form.grd.size = 6 := rfl
    rw [h6] at hcl h5
    rw [List.getElem?_eq_getElem (by omega)] at h5
    have h7 : ((n1 - 1) * 6 + 5) < cs.size := by
     rcases Nat.lt_or_ge ((n1 - 1) * 6 + 5) cs.size with h8 | h8
     ·exact h8
     ·simp [World.cell?, hcs, Array.getElem?_eq_none h8] at h5
    simp
    omega
  obtain ⟨cs0, hcb0, hcl0⟩ := hxL
  obtain ⟨pB, hpB⟩ : ∃ pB, w2.heap.size = pB := ⟨_, rfl⟩
  obtain ⟨wb, hwb⟩ : ∃ wb, w2.alloc (.cells #[.slice aN n1 kN, .slice aV n1 kV, .int .i64 s.steps] 53) = wb := ⟨_, rfl⟩
  have hb4 : Below w2.heap.size w2 wb := by rw [← hwb]; exact Below.x0
  have B12 : Box wb pB [.slice aN n1 kN, .slice aV n1 kV, .int .i64 s.steps] 53 := by rw [← hwb, ← hpB]; exact Box.new _ _ _
  rw [hpB] at hbVz
  have HPB := Lib.hid hpB
  have HWB := Lib.hid hwb
  have hpb2 : w2.heap.size ≤ pB := Nat.le_of_eq hpB
  have hpb3 : pB ≤ w2.heap.size := Nat.le_of_eq hpB.symm
  have HPV : Hid (0 < n1 → aV = some ⟨bV, 0, none⟩) := Lib.hid r1.ptr
  have HKV := Lib.hid (And.intro r1.le r1.maxc)
  clear hwb hpB rL r1
  have HTK : Hid (∀ t, t < n1 → s.V.take (t + 1) = s.V.take t ++ [gx s.V t]) := Lib.hid fun t ht => by
   rw [List.take_add_one, gx_get (by rw [HVL.out]; exact ht)]
   rfl
  have HTL : Hid (∀ t, t ≤ n1 → (s.V.take t).length = t) := Lib.hid fun t ht => by rw [List.length_take, HVL.out]; omega
  have HTA : Hid (s.V.take n1 = s.V) := Lib.hid (by rw [← HVL.out]; exact List.take_length)
  go_wp2
  try rw [HPB.out]
  rw [HWB.out]
  go_loopw [44] (fun i wr => ∃ (t : Nat) (cs : List Value), t ≤ n1 ∧ i = .int .i64 t ∧ Far (fun b => 0 < n1 ∧ b = bV) wb wr ∧ (0 < n1 → Box wr bV cs 84) ∧ (0 < n1 → n1 * 6 ≤ cs.length) ∧ PartOf Form.grd wr (notV bV (w.heap.size + 1 + 1)) cs (s.V.take t)) (fun i _ => n1 - (intOf i).toNat)
  case atStart => exact ⟨0, cs0, Nat.zero_le _, rfl, Far.refl _ _, fun h => (hcb0 h).keep hb4, hcl0, PartOf.nil⟩
  case round =>
   obtain ⟨t, cs, ht, rfl, hfr, hcb, hcl, hpt⟩ := hrel
   have hwz1 := hbw1.size
   have hzb := hb4.size
   have zP := B12.lt
   have hfz := hfr.size
   replace B12 := B12.farS hfr (fun e => by have := hbVz e.1; omega)
   have P1 := B12.cell 1
   have zP2 := B12.lt
   by_cases hlt : t < n1
   ·have hltI : (t : Int) < (n1 : Int) := by omega
    have ht0 : (0 : Int) ≤ (t : Int) := by omega
    obtain rfl := HPV.out (by omega)
    have h1r := (h1.keep hb4).farS hfr (fun b hF _ e => by have := hbVn e.1; omega)
    obtain rfl := h1r.ptr (by omega)
    obtain ⟨a4, n4, k4, b4, o4, a5, n5, k5, b5, o5, c0, c1, c2, c3, c4, c5, x4, x5⟩ := grd_cells (i := t) (d := gx s.V t) h1r (gx_get (by rw [HVL.out]; exact hlt))
    have hs4 : n4 * 8 ≤ 140737488355328 := by have := (HVM.out t hlt).1; rw [x4.len] at this; exact this
    have hs5 : n5 * 8 ≤ 140737488355328 := by have := (HVM.out t hlt).2; rw [x5.len] at this; exact this
    obtain ⟨d, hd⟩ : ∃ d, d = gx s.V t := ⟨_, rfl⟩
    rw [← hd] at c0 c1 c3 c4 x4 x5
    have HD := Lib.hid hd
    clear hd h0 h1 h1r r0
    have BX := Box.new wr [.int .i64 d.W.rows, .int .i64 d.W.cols, .slice a4 n4 k4, .int .i64 d.B.rows, .int .i64 d.B.cols, .slice a5 n5 k5] 84
    have hal : Below wr.heap.size wr (wr.alloc (.cells #[.int .i64 d.W.rows, .int .i64 d.W.cols, .slice a4 n4 k4, .int .i64 d.B.rows, .int .i64 d.B.cols, .slice a5 n5 k5] 84)) := Below.x0
    replace x4 := x4.keep hal
    replace x5 := x5.keep hal
    have BV := hcb (by omega)
    have hl6 := hcl (by omega)
    obtain ⟨e0, E0⟩ : ∃ e, cs[t * 6]? = some e := ⟨_, List.getElem?_eq_getElem (by omega)⟩
    obtain ⟨e1, E1⟩ : ∃ e, cs[t * 6 + 1]? = some e := ⟨_, List.getElem?_eq_getElem (by omega)⟩
    obtain ⟨e2, E2⟩ : ∃ e, cs[t * 6 + 2]? = some e := ⟨_, List.getElem?_eq_getElem (by omega)⟩
    obtain ⟨e3, E3⟩ : ∃ e, cs[t * 6 + 3]? = some e := ⟨_, List.getElem?_eq_getElem (by omega)⟩
    obtain ⟨e4, E4⟩ : ∃ e, cs[t * 6 + 4]? = some e := ⟨_, List.getElem?_eq_getElem (by omega)⟩
    obtain ⟨e5, E5⟩ : ∃ e, cs[t * 6 + 5]? = some e := ⟨_, List.getElem?_eq_getElem (by omega)⟩
    have HE := Lib.hid (And.intro E0 (And.intro E1 (And.intro E2 (And.intro E3 (And.intro E4 E5)))))
    clear E0 E1 E2 E3 E4 E5
    go_wp2_with fail
    go_region_held3 (fun w' => w'.cell? ⟨pB, 1, none⟩ = some (.slice (some ⟨bV, 0, none⟩) n1 kV) ∧ w'.cell? ⟨wr.heap.size, 0, none⟩ = some (.int .i64 d.W.rows) ∧ w'.cell? ⟨wr.heap.size, 1, none⟩ = some (.int .i64 d.W.cols) ∧ w'.cell? ⟨wr.heap.size, 2, none⟩ = some (.slice a4 n4 k4) ∧ w'.cell? ⟨wr.heap.size, 3, none⟩ = some (.int .i64 d.B.rows) ∧ w'.cell? ⟨wr.heap.size, 4, none⟩ = some (.int .i64 d.B.cols) ∧ w'.cell? ⟨wr.heap.size, 5, none⟩ = some (.slice a5 n5 k5))
     (first | exact cells_1_6 (T := 53) (U := 84) (by repeat (first | (with_reducible first | exact B12 | refine Box.alloc ?_ _ | refine Box.drewN ?_ _ | refine Box.drew ?_ | refine Box.fx ?_ _ | refine Box.keep ?_ hb8 | refine Box.keep ?_ hb7) | exact B12)) (by repeat (first | (with_reducible first | exact BX | refine Box.alloc ?_ _ | refine Box.drewN ?_ _ | refine Box.drew ?_ | refine Box.fx ?_ _ | refine Box.keep ?_ hb8 | refine Box.keep ?_ hb7) | exact BX)) | exact cells_1_6 (T := 53) (U := 84) (by first | exact B12.k1 hb7 | exact B12.k) (by first | exact BX.k1 hb7 | exact BX.k) | exact cells_1_6 (T := 53) (U := 84) B12.k BX.k)
     (first
     | (go_at_call 58; have hb7' := hb7; go_must (refine (trainClone_any d.B _ _ (MatAt.mk (show IntsAt _ a5 n5 k5 b5 o5 d.B.cells from (by first | exact x5.k1 hb7 | exact x5.k))) (by rw [x5.len]; exact hs5)).mono ?_); go_must (rintro e w8 ⟨v8, rfl, ⟨a8, n8, k8, b8, o8, rfl, hn8, x8⟩, hb8⟩); have BV8 : Box w8 bV cs 84 := (by repeat (first | (with_reducible first | exact BV | refine Box.alloc ?_ _ | refine Box.drewN ?_ _ | refine Box.drew ?_ | refine Box.fx ?_ _ | refine Box.keep ?_ hb8 | refine Box.keep ?_ hb7) | exact BV)); have y0 : w8.cell? ⟨bV, t * 6, none⟩ = some e0 := (by rw [BV8.cell]; exact HE.out.1); have f0 := BV8.thawed (t * 6); have y1 : w8.cell? ⟨bV, t * 6 + 1, none⟩ = some e1 := (by rw [BV8.cell]; exact HE.out.2.1); have f1 := BV8.thawed (t * 6 + 1); have y2 : w8.cell? ⟨bV, t * 6 + 2, none⟩ = some e2 := (by rw [BV8.cell]; exact HE.out.2.2.1); have f2 := BV8.thawed (t * 6 + 2); have y3 : w8.cell? ⟨bV, t * 6 + 3, none⟩ = some e3 := (by rw [BV8.cell]; exact HE.out.2.2.2.1); have f3 := BV8.thawed (t * 6 + 3); have y4 : w8.cell? ⟨bV, t * 6 + 4, none⟩ = some e4 := (by rw [BV8.cell]; exact HE.out.2.2.2.2.1); have f4 := BV8.thawed (t * 6 + 4); have y5 : w8.cell? ⟨bV, t * 6 + 5, none⟩ = some e5 := (by rw [BV8.cell]; exact HE.out.2.2.2.2.2); have f5 := BV8.thawed (t * 6 + 5); have zV8 := BV8.lt)
     | (go_at_call 58; go_must (refine (trainClone_any d.W _ _ (MatAt.mk (show IntsAt _ a4 n4 k4 b4 o4 d.W.cells from x4.k)) (by rw [x4.len]; exact hs4)).mono ?_); go_must (rintro e w7 ⟨v7, rfl, ⟨a7, n7, k7, b7, o7, rfl, hn7, x7⟩, hb7⟩)))
    all_goals (
     have hbX : Below wr.heap.size wr w8 := (Below.x2 hb8 hb7)
     have hzX := hbX.size
     have hz7 : wr.heap.size ≤ w7.heap.size := ((Below.x1 hb7) : Below wr.heap.size wr w7).size
     have hfS : Far (fun b => 0 < n1 ∧ b = bV) w8 ((((((w8.setCell ⟨bV, t * 6, none⟩ (.int .i64 d.W.rows)).setCell ⟨bV, t * 6 + 1, none⟩ (.int .i64 d.W.cols)).setCell ⟨bV, t * 6 + 2, none⟩ (.slice a7 n7 k7)).setCell ⟨bV, t * 6 + 3, none⟩ (.int .i64 d.B.rows)).setCell ⟨bV, t * 6 + 4, none⟩ (.int .i64 d.B.cols)).setCell ⟨bV, t * 6 + 5, none⟩ (.slice a8 n8 k8)) := ((((((Far.refl (fun b => 0 < n1 ∧ b = bV) w8).st (fun _ => ⟨by omega, rfl⟩) _).st (fun _ => ⟨by omega, rfl⟩) _).st (fun _ => ⟨by omega, rfl⟩) _).st (fun _ => ⟨by omega, rfl⟩) _).st (fun _ => ⟨by omega, rfl⟩) _).st (fun _ => ⟨by omega, rfl⟩) _
     have hfD : Far (fun b => 0 < n1 ∧ b = bV) wr ((((((w8.setCell ⟨bV, t * 6, none⟩ (.int .i64 d.W.rows)).setCell ⟨bV, t * 6 + 1, none⟩ (.int .i64 d.W.cols)).setCell ⟨bV, t * 6 + 2, none⟩ (.slice a7 n7 k7)).setCell ⟨bV, t * 6 + 3, none⟩ (.int .i64 d.B.rows)).setCell ⟨bV, t * 6 + 4, none⟩ (.int .i64 d.B.cols)).setCell ⟨bV, t * 6 + 5, none⟩ (.slice a8 n8 k8)) := (Far.of_below hbX).trans hfS
     have l7 : 0 < n7 → wr.heap.size ≤ b7 := fun h => by have := hn7 h; first | omega | (simp at this; omega)
     have l8 : 0 < n8 → wr.heap.size ≤ b8 := fun h => by have := hn8 h; first | omega | (simp at this; omega)
     have hbr : w2.heap.size ≤ wr.heap.size := by omega
     have hbVw : bV < w2.heap.size := by have := hbVz (by omega); omega
     have hw2z : w.heap.size + 1 + 1 < w2.heap.size := by omega
     have j7 := (show IntsAt w8 a7 n7 k7 b7 o7 d.W.cells from (by first | exact x7.k1 hb8 | exact x7.k)).farS hfS (fun h e => by have := l7 h; omega)
     have j8 := x8.farS hfS (fun h e => by have := l8 h; omega)
     have m7 : 0 < n7 → notV bV (w.heap.size + 1 + 1) b7 := fun h => by have := l7 h; exact ⟨by omega, by omega⟩
     have m8 : 0 < n8 → notV bV (w.heap.size + 1 + 1) b8 := fun h => by have := l8 h; exact ⟨by omega, by omega⟩
     have HPT' := hpt.far hfD (fun b hb e => hb.1 e.2)
     have HNEW := Lib.hid (show PartOf Form.grd ((((((w8.setCell ⟨bV, t * 6, none⟩ (.int .i64 d.W.rows)).setCell ⟨bV, t * 6 + 1, none⟩ (.int .i64 d.W.cols)).setCell ⟨bV, t * 6 + 2, none⟩ (.slice a7 n7 k7)).setCell ⟨bV, t * 6 + 3, none⟩ (.int .i64 d.B.rows)).setCell ⟨bV, t * 6 + 4, none⟩ (.int .i64 d.B.cols)).setCell ⟨bV, t * 6 + 5, none⟩ (.slice a8 n8 k8)) (notV bV (w.heap.size + 1 + 1)) ((((((cs.set (t * 6) (.int .i64 d.W.rows)).set (t * 6 + 1) (.int .i64 d.W.cols)).set (t * 6 + 2) (.slice a7 n7 k7)).set (t * 6 + 3) (.int .i64 d.B.rows)).set (t * 6 + 4) (.int .i64 d.B.cols)).set (t * 6 + 5) (.slice a8 n8 k8)) (s.V.take (t + 1)) from by
      rw [HTK.out t hlt, ← HD.out]
      exact PartOf.snoc (PartOf.set (PartOf.set (PartOf.set (PartOf.set (PartOf.set (PartOf.set (HPT') (by rw [HTL.out t (by omega)]; show t * 6 ≤ _; omega) _) (by rw [HTL.out t (by omega)]; show t * 6 ≤ _; omega) _) (by rw [HTL.out t (by omega)]; show t * 6 ≤ _; omega) _) (by rw [HTL.out t (by omega)]; show t * 6 ≤ _; omega) _) (by rw [HTL.out t (by omega)]; show t * 6 ≤ _; omega) _) (by rw [HTL.out t (by omega)]; show t * 6 ≤ _; omega) _) (reads_grd (d := d) m7 j7 m8 j8) (by rw [HTL.out t (by omega)]; exact sets6 (by omega) _ _ _ _ _ _))
     have HBN := Lib.hid (show Box ((((((w8.setCell ⟨bV, t * 6, none⟩ (.int .i64 d.W.rows)).setCell ⟨bV, t * 6 + 1, none⟩ (.int .i64 d.W.cols)).setCell ⟨bV, t * 6 + 2, none⟩ (.slice a7 n7 k7)).setCell ⟨bV, t * 6 + 3, none⟩ (.int .i64 d.B.rows)).setCell ⟨bV, t * 6 + 4, none⟩ (.int .i64 d.B.cols)).setCell ⟨bV, t * 6 + 5, none⟩ (.slice a8 n8 k8)) bV ((((((cs.set (t * 6) (.int .i64 d.W.rows)).set (t * 6 + 1) (.int .i64 d.W.cols)).set (t * 6 + 2) (.slice a7 n7 k7)).set (t * 6 + 3) (.int .i64 d.B.rows)).set (t * 6 + 4) (.int .i64 d.B.cols)).set (t * 6 + 5) (.slice a8 n8 k8)) 84 from ((((((BV8.set (t * 6) (.int .i64 d.W.rows)).set (t * 6 + 1) (.int .i64 d.W.cols)).set (t * 6 + 2) (.slice a7 n7 k7)).set (t * 6 + 3) (.int .i64 d.B.rows)).set (t * 6 + 4) (.int .i64 d.B.cols)).set (t * 6 + 5) (.slice a8 n8 k8)))
     have HFN := Lib.hid (hfr.trans hfD)
     have HCL : Hid (n1 * 6 ≤ ((((((cs.set (t * 6) (.int .i64 d.W.rows)).set (t * 6 + 1) (.int .i64 d.W.cols)).set (t * 6 + 2) (.slice a7 n7 k7)).set (t * 6 + 3) (.int .i64 d.B.rows)).set (t * 6 + 4) (.int .i64 d.B.cols)).set (t * 6 + 5) (.slice a8 n8 k8)).length) := Lib.hid (by simp only [List.length_set]; exact hl6)
     clear hbX hfS hfD l7 l8 j7 j8 m7 m8 HPT' hpt x4 x5 x7 x8 hn7 hn8 hb7 hb8 BX BV BV8 B12
     go_wp2_with fail
     go_roundw
     case rel => exact ⟨t + 1, _, by omega, by go_num, HFN.out, fun _ => HBN.out, fun _ => HCL.out, HNEW.out⟩
     case measure => simp [intOf]; omega)
   ·obtain rfl : t = n1 := by omega
    replace hpt := (HTA.out ▸ hpt : PartOf Form.grd wr (notV bV (w.heap.size + 1 + 1)) cs s.V)
    have hw2z : w.heap.size + 1 + 1 < w1.heap.size := by have := HZ8.out; omega
    have rowV : RowAt Form.grd wr (fun b => b ≠ w.heap.size + 1 + 1) aV t kV bV 0 s.V :=
     ⟨HVL.out, HKV.out.1, HKV.out.2, HPV.out, fun h => (hcb h).lt, fun h e => by have := hbVn h; omega, fun i x hx => by
      have hi : i < s.V.length := (List.getElem?_eq_some_iff.1 hx).1
      have h0' : 0 < t := by have := HVL.out; omega
      obtain ⟨c, hr, hc⟩ := hpt i x hx
      exact ⟨c, Form.grd.wide (fun b hb _ => hb.2) hr, fun j hj => by rw [Nat.zero_add, (hcb h0').cell]; exact hc j hj⟩⟩
    have rowN := (r0.keep hb4).farS hfr (fun b hF _ e => hF.2 e.1 e.2)
    have B8r := (B8.keep hb4).farS hfr (fun e => by have := hbVn e.1; omega)
    have c120 := B12.cell 0
    have c122 := B12.cell 2
    have c80 := B8r.cell 0
    have c81 := B8r.cell 1
    have c82 := B8r.cell 2
    have f80 := B8r.thawed 0
    have f81 := B8r.thawed 1
    have f82 := B8r.thawed 2
    have z8r := B8r.lt
    have hbwr : Below w.heap.size w wr := Far.toBelow (hbw2.trans (hb4.mono hbw2.size)) hfr (by omega) (fun k e => by have := hbVn e.1; have := e.2; omega)
    have hf9 : Far (fun c => c = w.heap.size + 1 + 1) wr (((wr.setCell ⟨w.heap.size + 1 + 1, 0, none⟩ (.slice aN t kN)).setCell ⟨w.heap.size + 1 + 1, 1, none⟩ (.slice aV t kV)).setCell ⟨w.heap.size + 1 + 1, 2, none⟩ (.int .i64 s.steps)) := (((Far.refl (fun c => c = w.heap.size + 1 + 1) wr).st (fun _ => rfl) _).st (fun _ => rfl) _).st (fun _ => rfl) _
    have bz := ((B8r.set 0 (.slice aN t kN)).set 1 (.slice aV t kV)).set 2 (.int .i64 s.steps)
    have z0 := bz.cell 0
    have z1 := bz.cell 1
    have z2 := bz.cell 2
    have t0 := (rowN.farS hf9 (fun b hb _ e => by have h3 : w1.heap.size ≤ b := hb.1; omega)).wide (G := anyB) (fun _ _ _ => trivial)
    have t1 := (rowV.farS hf9 (fun b hb _ e => hb e)).wide (G := anyB) (fun _ _ _ => trivial)
    have hbe : Below w.heap.size w (((wr.setCell ⟨w.heap.size + 1 + 1, 0, none⟩ (.slice aN t kN)).setCell ⟨w.heap.size + 1 + 1, 1, none⟩ (.slice aV t kV)).setCell ⟨w.heap.size + 1 + 1, 2, none⟩ (.int .i64 s.steps)) := ((hbwr.setCell (by dsimp only; omega) _).setCell (by dsimp only; omega) _).setCell (by dsimp only; omega) _
    have HP := Lib.hid (And.intro hbe (And.intro t0 t1))
    clear hf9 bz t0 t1 hbe rowN rowV B8r hcb hpt h0 h1 B4 B8 B12 hfr hbwr hb1 hb2 hb3 hb4 hbw1 hbw2 r0
    go_wp2
    refine bodyPost_ret (v := .tuple #[.agg #[.slice aN t kN, .slice aV t kV, .int .i64 s.steps], .slice none 0 0, .nilIface]) (by simp [results, Tryz.results21, go_sem, z0, z1, z2]) rfl ⟨_, _, by rw [HAF.out, HF.out]; rfl, HP.out.1, fun _ => ?_, fun h => absurd (HAF.out.trans HF.out) h⟩
    have hll : l = [] := List.eq_nil_of_length_eq_zero HLL.out
    subst hll
    exact ⟨⟨aN, t, kN, bN, 0, aV, t, kV, bV, 0, rfl, HP.out.2.1, HP.out.2.2⟩, none, 0, 0, rfl, ⟨rfl, Nat.le_refl _, Nat.zero_le _, fun h => absurd h (Nat.lt_irrefl _), fun h => absurd h (Nat.lt_irrefl _), fun i hi => absurd hi (Nat.not_lt_zero _)⟩⟩
 ·have HF := Lib.hid hf
  have HE : Hid (errV s.fault = .iface 31 (.int .i64 s.fault)) := Lib.hid (errV_err hf)
  clear hf
  go_enter Tryz.func21, Tryz.ntmps21
  obtain ⟨w3, hw3⟩ : ∃ w3, ((w.alloc (.cells #[.slice a0 n k0, .slice a1 n1 k1, .int .i64 s.steps] 53)).alloc (.cells #[.int .i64 ln, .int .i64 kp] 51)).alloc (.cells #[.slice none 0 0, .slice none 0 0, .int .i64 0] 53) = w3 := ⟨_, rfl⟩
  have hb3 : Below w.heap.size w w3 := by rw [← hw3]; exact Below.x0
  have B4 : Box w3 w.heap.size [.slice a0 n k0, .slice a1 n1 k1, .int .i64 s.steps] 53 := by rw [← hw3]; exact Box.x0
  have B8 : Box w3 (w.heap.size + 1 + 1) [.slice none 0 0, .slice none 0 0, .int .i64 0] 53 := by rw [← hw3]; exact Box.x0
  have HW3 := Lib.hid hw3
  replace h0 := h0.keep hb3
  replace h1 := (h1.wide (G := fun b => b < w.heap.size) (fun _ _ h => h)).keep hb3
  have c40 := B4.cell 0
  have c41 := B4.cell 1
  have c42 := B4.cell 2
  clear hw3
  go_wp2_with fail
  rw [HW3.out]
  refine (trainCheck_any s F _ _ _ _ _ _ _ _ _ _ _ _ h0 h1).mono ?_
  rintro e w1 ⟨rfl, hb1⟩
  rw [HE.out]
  have hbw1 : Below w.heap.size w w1 := hb3.trans (hb1.mono hb3.size)
  replace B8 := B8.keep hb1
  have c80 := B8.cell 0
  have c81 := B8.cell 1
  have c82 := B8.cell 2
  have f80 := B8.thawed 0
  have f81 := B8.thawed 1
  have f82 := B8.thawed 2
  have z8 := B8.lt
  have bz := (((B8.set 0 (.slice none 0 0)).set 1 (.slice none 0 0)).set 2 (.int .i64 0))
  have z0 := bz.cell 0
  have z1 := bz.cell 1
  have z2 := bz.cell 2
  have hbe : Below w.heap.size w (((w1.setCell ⟨w.heap.size + 1 + 1, 0, none⟩ (.slice none 0 0)).setCell ⟨w.heap.size + 1 + 1, 1, none⟩ (.slice none 0 0)).setCell ⟨w.heap.size + 1 + 1, 2, none⟩ (.int .i64 0)) := ((hbw1.setCell (by dsimp only; omega) _).setCell (by dsimp only; omega) _).setCell (by dsimp only; omega) _
  have HBE := Lib.hid hbe
  clear h0 h1 bz hbe hb1 hbw1 B4 B8 c40 c41 c42
  go_wp2
  refine bodyPost_ret (v := .tuple #[.agg #[.slice none 0 0, .slice none 0 0, .int .i64 0], .slice none 0 0, .iface 31 (.int .i64 s.fault)]) (by simp [results, Tryz.results21, go_sem, z0, z1, z2]) rfl ⟨_, _, by rw [HAF.out, HE.out], HBE.out, fun h => absurd (HAF.out.symm.trans h) HF.out, fun _ => ⟨rfl, rfl⟩⟩
theorem trainAll_any :
  Calls Tryz.prog 21 #[.agg #[.slice a0 n k0, .slice a1 n1 k1, .int .i64 s.steps], .slice aL L kL, .int .i64 p, .agg #[.int .i64 ln, .int .i64 kp]] w (AllEnd w s l p ln kp)
 := by
 rcases Nat.eq_zero_or_pos L with h | h
 ·exact trainAll_none s l p ln kp F G H a0 a1 aL n n1 k0 k1 b0 b1 o0 o1 L kL bL oL w h0 h1 hl h
 ·rcases Nat.lt_or_ge 20 L with h2 | h2
  ·exact trainAll_full s l p ln kp F G H a0 a1 aL n n1 k0 k1 b0 b1 o0 o1 L kL bL oL w h0 h1 hl h2
  ·exact trainAll_many s l p ln kp F G H a0 a1 aL n n1 k0 k1 b0 b1 o0 o1 L kL bL oL w h0 h1 hl h h2
end
end Go.Proofs.YtgknjikjjklaiaaGreatDoor
end
section
set_option linter.unusedVariables false
set_option linter.unusedSimpArgs false
set_option linter.unusedSectionVars false
namespace Go.Proofs.YtgknjikjjklaiaaGreatDoor
open Go.RowKit Gal
set_option maxRecDepth 100000
set_option maxHeartbeats 2000000
theorem refShaped_any (x y : Mat) (a0 a1 : Option Addr) (n0 n1 k0 k1 : Nat) (w : World) :
  Calls Tryz.prog 45 #[.agg #[.int .i64 x.rows, .int .i64 x.cols, .slice a0 n0 k0], .agg #[.int .i64 y.rows, .int .i64 y.cols, .slice a1 n1 k1]] w fun e w' => e = .returned (.bool (decide (likeShape x y))) ∧ Below w.heap.size w w' := by
 by_cases h1 : x.rows = y.rows
 ·have g1 : (x.rows == y.rows) = true := by simp [h1]
  by_cases h2 : x.cols = y.cols
  ·have g2 : (x.cols == y.cols) = true := by simp [h2]
   rw [decide_eq_true (show likeShape x y from ⟨h1, h2⟩)]
   clear h1 h2
   go_enter Tryz.func45, Tryz.ntmps45
   go_wp2
   go_ret
   exact ⟨rfl, Below.x0⟩
  ·have g2 : (x.cols == y.cols) = false := by simp [h2]
   rw [decide_eq_false (fun h : likeShape x y => h2 h.2)]
   clear h1 h2
   go_enter Tryz.func45, Tryz.ntmps45
   go_wp2
   go_ret
   exact ⟨rfl, Below.x0⟩
 ·have g1 : (x.rows == y.rows) = false := by simp [h1]
  rw [decide_eq_false (fun h : likeShape x y => h1 h.1)]
  clear h1
  go_enter Tryz.func45, Tryz.ntmps45
  go_wp2
  go_ret
  exact ⟨rfl, Below.x0⟩
end Go.Proofs.YtgknjikjjklaiaaGreatDoor
end
section
set_option linter.unusedVariables false
set_option linter.unusedSimpArgs false
namespace Gal
open Go Go.RowKit
structure Cells7 (w : World) (b i : Nat) (v0 v1 v2 v3 v4 v5 v6 : Value) : Prop where
 c0 : w.cell? ⟨b, i, none⟩ = some v0
 c1 : w.cell? ⟨b, i + 1, none⟩ = some v1
 c2 : w.cell? ⟨b, i + 2, none⟩ = some v2
 c3 : w.cell? ⟨b, i + 3, none⟩ = some v3
 c4 : w.cell? ⟨b, i + 4, none⟩ = some v4
 c5 : w.cell? ⟨b, i + 5, none⟩ = some v5
 c6 : w.cell? ⟨b, i + 6, none⟩ = some v6
section
variable {w w' : World} {b i : Nat} {v0 v1 v2 v3 v4 v5 v6 : Value}
theorem Cells7.keep (h : Cells7 w b i v0 v1 v2 v3 v4 v5 v6) (hb : Below w.heap.size w w') : Cells7 w' b i v0 v1 v2 v3 v4 v5 v6 := ⟨cell_keep' hb h.c0, cell_keep' hb h.c1, cell_keep' hb h.c2, cell_keep' hb h.c3, cell_keep' hb h.c4, cell_keep' hb h.c5, cell_keep' hb h.c6⟩
theorem Cells7.alloc (h : Cells7 w b i v0 v1 v2 v3 v4 v5 v6) (o : Obj) : Cells7 (w.alloc o) b i v0 v1 v2 v3 v4 v5 v6 := h.keep ((Below.refl w.heap.size w).alloc (Nat.le_refl _) o)
theorem Cells7.drewN (h : Cells7 w b i v0 v1 v2 v3 v4 v5 v6) (n : Nat) : Cells7 (w.drewN n) b i v0 v1 v2 v3 v4 v5 v6 := ⟨h.c0, h.c1, h.c2, h.c3, h.c4, h.c5, h.c6⟩
theorem Cells7.drew (h : Cells7 w b i v0 v1 v2 v3 v4 v5 v6) : Cells7 w.drew b i v0 v1 v2 v3 v4 v5 v6 := ⟨h.c0, h.c1, h.c2, h.c3, h.c4, h.c5, h.c6⟩
theorem Cells7.far (h : Cells7 w b i v0 v1 v2 v3 v4 v5 v6) {a : Addr} (hne : b ≠ a.block) (v : Value) : Cells7 (w.setCell a v) b i v0 v1 v2 v3 v4 v5 v6 :=
 ⟨(World.cell?_of_block (a := ⟨b, i, none⟩) (Below.heap_setCell w a v b hne)).trans h.c0, (World.cell?_of_block (a := ⟨b, i + 1, none⟩) (Below.heap_setCell w a v b hne)).trans h.c1, (World.cell?_of_block (a := ⟨b, i + 2, none⟩) (Below.heap_setCell w a v b hne)).trans h.c2, (World.cell?_of_block (a := ⟨b, i + 3, none⟩) (Below.heap_setCell w a v b hne)).trans h.c3, (World.cell?_of_block (a := ⟨b, i + 4, none⟩) (Below.heap_setCell w a v b hne)).trans h.c4, (World.cell?_of_block (a := ⟨b, i + 5, none⟩) (Below.heap_setCell w a v b hne)).trans h.c5, (World.cell?_of_block (a := ⟨b, i + 6, none⟩) (Below.heap_setCell w a v b hne)).trans h.c6⟩
end
end Gal
end
