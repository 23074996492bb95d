/- AgainBacks: what goes back through any net of which little is kept is the document's, and so is how much is kept: the law returns true, and the input reads as it did. No condition. -/
import Derived.Test.YtgknjikjjklaiaaGreatDoorCards
import Derived.Test.YtgknjikjjklaiaaGreatDoorTie
import Derived.Test.YtgknjikjjklaiaaGreatDoorJ36
import Derived.Test.YtgknjikjjklaiaaGreatDoorJ37
import Derived.Test.YtgknjikjjklaiaaGreatDoorJ45
import Derived.Test.YtgknjikjjklaiaaGreatDoorJ46
import Derived.Test.YtgknjikjjklaiaaGreatDoorJ22
import Derived.Test.YtgknjikjjklaiaaGreatDoorJ13
import Derived.Test.YtgknjikjjklaiaaGreatDoorJ17
import Derived.Deep.DeepHandedRow
set_option linter.unusedVariables false
set_option linter.unusedSimpArgs false
set_option linter.unusedSectionVars false
namespace Go.Proofs.YtgknjikjjklaiaaGreatDoor.lawAgainBacks
open Go.ChangeShapes Go.WideShapes Go.ChangeAt Go.RowKit Gal
set_option maxRecDepth 100000
set_option maxHeartbeats 8000000
theorem nb_is {ls : List Lay} {x wt : Mat} {n : Nat} (hn : ls.length = n) (h12 : n ≤ 12) (hm : (netTo ls x n).fault = 0) : netBackFault ls (netOuts ls x n) (lossBack (netTo ls x n) wt) = bF ls (netOuts ls x n) (lossBack (netTo ls x n) wt) n n := by
 subst hn
 unfold netBackFault
 rw [if_neg (by omega), if_neg (by rw [netOuts_length]; simp)]
 by_cases h0 : ls.length = 0
 ·rw [if_pos h0, lossBack_fault hm, h0]; rfl
 ·rw [if_neg h0]
theorem cells3b {w : World} {b i c : Nat} {t : TypeId} {x y z u v s : Value} (h : Cells3 w b i x y z) (k : Box w c [u, v, s] t) :
  w.cell? ⟨b, i, none⟩ = some x ∧ w.cell? ⟨b, i + 1, none⟩ = some y ∧ w.cell? ⟨b, i + 2, none⟩ = some z ∧ w.cell? ⟨c, 0, none⟩ = some u ∧ w.cell? ⟨c, 1, none⟩ = some v ∧ w.cell? ⟨c, 2, none⟩ = some s := ⟨h.c0, h.c1, h.c2, k.cell 0, k.cell 1, k.cell 2⟩
theorem walk (ls : List Lay) (vl : Value) (x : Mat) (vx : Value) (wt : Mat) (vw : Value) (E L : Int) (w : World) (hl : LaysAt w vl ls) (hx : MatAt w vx x) (hw : MatAt w vw wt) (hE : (Lit.int .i64 E).wf = true) (hL : (Lit.int .i64 L).wf = true) (hh : Handle w) :
  Calls Tryz.prog 3 #[vl, vx, vw, .int .i64 E, .int .i64 L] w fun e w' => e = .returned (.bool true) ∧ Below w.heap.size w w' := by
 obtain ⟨a, n, k, b, o, rfl, h⟩ := hl
 obtain ⟨ax, nx, kx, bx, ox, rfl, x1⟩ := hx
 obtain ⟨aw, nw, kw, bw, ow, rfl, x2⟩ := hw
 have hE' := bounds_i64 hE
 have hL' := bounds_i64 hL
 clear hE hL
 by_cases hEb : E < 1 ∨ 12 < E
 ·have HEB := Lib.hid hEb
  by_cases hE1 : E < 1
  ·clear hEb
   go_enter Tryz.func3, Tryz.ntmps3
   go_wp2_with fail
   refine (againBack_bad _ _ _ _ _ _ _ _ _ _ _ E _ HEB.out).mono ?_
   rintro e w1 ⟨rfl, hb1⟩
   have hkw1 : Below w.heap.size w w1 := (Below.x1 hb1)
   replace hh := hh.keep hkw1
   have hsw1 := hkw1.size
   clear h x1 x2
   go_wp2_with fail
   refine (error_same 1 _ hh).mono ?_
   rintro e w2 ⟨rfl, hb2⟩
   replace hh := hh.keep hb2
   go_wp2_with fail
   refine (grads_same [] anyB anyB none none 0 0 0 0 0 0 0 0 _ (RowAt.nil _ _ _) (RowAt.nil _ _ _)).mono ?_
   rintro e w3 ⟨rfl, hb3⟩
   replace hh := hh.keep hb3
   have hbe : Below w.heap.size w w3 := (by repeat (first | (with_reducible first | exact Below.refl _ _ | refine Below.al ?_ _ | refine Below.drN ?_ _ | refine Below.drew ?_ | refine Below.sx ?_ _ | refine Below.go ?_ hb3 | refine Below.go ?_ hb2 | refine Below.go ?_ hb1) | exact Below.refl _ _))
   have hEb := HEB.out
   have hbad : L < 0 ∨ 12 < L ∨ E < 1 ∨ 12 < E := by omega
   clear HEB hEb
   have HT : (decide (L < 0) || decide (12 < L) || decide (E < 1) || decide (12 < E)) = true := by simp; omega
   go_wp2_with fail
   refine (againMost_any L E _).mono ?_
   rintro e w7 ⟨rfl, hM⟩
   obtain rfl := hM.1 hbad
   clear hM hbad
   go_wp2_with fail
   all_goals (
    refine (error_same 1 _ hh).mono ?_
    rintro e w8 ⟨rfl, hb8⟩
    go_wp2
    go_ret
    exact ⟨rfl, (Below.y1 hb8 hbe)⟩)
  ·have hE2 : 12 < E := by omega
   clear hEb
   go_enter Tryz.func3, Tryz.ntmps3
   go_wp2_with fail
   refine (againBack_bad _ _ _ _ _ _ _ _ _ _ _ E _ HEB.out).mono ?_
   rintro e w1 ⟨rfl, hb1⟩
   have hkw1 : Below w.heap.size w w1 := (Below.x1 hb1)
   replace hh := hh.keep hkw1
   have hsw1 := hkw1.size
   clear h x1 x2
   go_wp2_with fail
   refine (error_same 1 _ hh).mono ?_
   rintro e w2 ⟨rfl, hb2⟩
   replace hh := hh.keep hb2
   go_wp2_with fail
   refine (grads_same [] anyB anyB none none 0 0 0 0 0 0 0 0 _ (RowAt.nil _ _ _) (RowAt.nil _ _ _)).mono ?_
   rintro e w3 ⟨rfl, hb3⟩
   replace hh := hh.keep hb3
   have hbe : Below w.heap.size w w3 := (by repeat (first | (with_reducible first | exact Below.refl _ _ | refine Below.al ?_ _ | refine Below.drN ?_ _ | refine Below.drew ?_ | refine Below.sx ?_ _ | refine Below.go ?_ hb3 | refine Below.go ?_ hb2 | refine Below.go ?_ hb1) | exact Below.refl _ _))
   have hEb := HEB.out
   have hbad : L < 0 ∨ 12 < L ∨ E < 1 ∨ 12 < E := by omega
   clear HEB hEb
   have HT : (decide (L < 0) || decide (12 < L) || decide (E < 1) || decide (12 < E)) = true := by simp; omega
   go_wp2_with fail
   refine (againMost_any L E _).mono ?_
   rintro e w7 ⟨rfl, hM⟩
   obtain rfl := hM.1 hbad
   clear hM hbad
   go_wp2_with fail
   all_goals (
    refine (error_same 1 _ hh).mono ?_
    rintro e w8 ⟨rfl, hb8⟩
    go_wp2
    go_ret
    exact ⟨rfl, (Below.y1 hb8 hbe)⟩)
 ·obtain ⟨le, rfl⟩ : ∃ le : Nat, E = le := ⟨E.toNat, by omega⟩
  have hE1 : 1 ≤ le := by omega
  have hE12 : le ≤ 12 := by omega
  have e1 : ¬ (le : Int) < 1 := by omega
  have e2 : ¬ (12 : Int) < (le : Int) := by omega
  have hn := h.len
  clear hEb hE'
  by_cases hgo : netGoFault ls x = 0
  ·obtain ⟨h12, hxf, hgt⟩ := go_parts hgo
   rw [hn] at h12 hgt
   obtain ⟨M, hM⟩ : ∃ M, netTo ls x n = M := ⟨_, rfl⟩
   have HMX : Hid (mx (netOuts ls x n) n = M) := Lib.hid (by rw [outs_mx (Nat.le_refl n), hM])
   have HGO := Lib.hid hgo
   by_cases hlo : lossFault M wt = 0
   ·obtain ⟨g, hg⟩ : ∃ g, lossBack M wt = g := ⟨_, rfl⟩
    obtain ⟨f, hf⟩ : ∃ f, bF ls (netOuts ls x n) g n n = f := ⟨_, rfl⟩
    have HAG : Hid (agFault ls x wt = f) := Lib.hid (by
     unfold agFault
     rw [if_neg (fun h => h hgo), hn, hM, if_neg (fun h => h hlo), hg, hf])
    have HNB : Hid (netBackFault ls (netOuts ls x n) g = f) := Lib.hid (by
     rw [← hg, ← hM, nb_is hn h12 (by rw [hM]; exact (lossFault_ok hlo).1), hM, hg, hf])
    have HLO := Lib.hid hlo
    have HGB := Lib.hid hg
    have HM := Lib.hid hM
    have HN := Lib.hid hn
    clear hf hlo hg hgo hxf hgt
    by_cases hf0 : f = 0
    ·have HF := Lib.hid hf0
     have hq : (f == 0) = true := by simp [hf0]
     clear hf0
     go_enter Tryz.func3, Tryz.ntmps3
     go_wp2_with fail
     refine (againBack_any ls x wt anyB _ _ _ _ _ _ _ _ ((h.alloc _).alloc _) (MatAt.mk ((x1.alloc _).alloc _)) (MatAt.mk ((x2.alloc _).alloc _)) le hE1 hE12).mono ?_
     rw [HAG.out]
     rintro e w1 ⟨v1, of, mo, rfl, hb1, hu1, _⟩
     have B6 := ((Box.new w [.int .i64 x.rows, .int .i64 x.cols, .slice ax nx kx] 25).alloc _).keep hb1
     have B6c := B6.cell
     have B6f := B6.thawed
     have B6z := B6.lt
     have B6k := lt_add B6z
     have B7 := ((show Box _ (w.heap.size + 1) [.int .i64 wt.rows, .int .i64 wt.cols, .slice aw nw kw] 25 from Box.x0)).keep hb1
     have B7c := B7.cell
     have B7f := B7.thawed
     have B7z := B7.lt
     have B7k := lt_add B7z
     have hkw1 : Below w.heap.size w w1 := (Below.x1 hb1)
     replace h := h.keep hkw1
     replace x1 := x1.keep hkw1
     replace x2 := x2.keep hkw1
     replace hh := hh.keep hkw1
     have hsw1 := hkw1.size
     obtain ⟨rfl, rfl, a1, k1, b1, rfl, r1⟩ := hu1 HF.out
     go_wp2_with fail
     refine (refNetGo_any ls anyB _ _ _ _ _ x _ _ h (MatAt.mk x1)).mono ?_
     rw [HGO.out]
     rintro e w2 ⟨v2, rfl, hb2, hv2, _⟩
     have hkw2 : Below w1.heap.size w1 w2 := (Below.x1 hb2)
     replace B6 := B6.keep hkw2
     replace B6c := B6.cell
     replace B6f := B6.thawed
     replace B6z := B6.lt
     replace B6k := lt_add B6z
     replace B7 := B7.keep hkw2
     replace B7c := B7.cell
     replace B7f := B7.thawed
     replace B7z := B7.lt
     replace B7k := lt_add B7z
     replace h := h.keep hkw2
     replace x1 := x1.keep hkw2
     replace x2 := x2.keep hkw2
     replace hh := hh.keep hkw2
     replace r1 := r1.keep hkw2
     have hsw2 := hkw2.size
     clear hu1
     obtain ⟨a6, k6, b6, rfl, r6⟩ := hv2 rfl
     obtain ⟨a7, n7, k7, b7, o7, CM, xg⟩ := mats_cells (i := n) r6 (by omega)
     rw [HMX.out] at CM xg
     rw [Nat.zero_add] at CM
     obtain rfl := r6.ptr (Nat.succ_pos _)
     have hxl := xg.lt
     have pI : (n : Int) < (n : Int) + 1 := by omega
     clear hv2
     go_wp2_with fail
     go_region_held3 (fun w' => w'.cell? ⟨b6, n * 3, none⟩ = some (.int .i64 M.rows) ∧ w'.cell? ⟨b6, n * 3 + 1, none⟩ = some (.int .i64 M.cols) ∧ w'.cell? ⟨b6, n * 3 + 2, none⟩ = some (.slice a7 n7 k7) ∧ w'.cell? ⟨w.heap.size + 1, 0, none⟩ = some (.int .i64 wt.rows) ∧ w'.cell? ⟨w.heap.size + 1, 1, none⟩ = some (.int .i64 wt.cols) ∧ w'.cell? ⟨w.heap.size + 1, 2, none⟩ = some (.slice aw nw kw)) (exact cells3b (t := 25) (by repeat (first | (with_reducible first | exact CM | refine Cells3.alloc ?_ _ | refine Cells3.drewN ?_ _ | refine Cells3.drew ?_ | (refine Cells3.far ?_ ?_ _; rotate_left 1; (first | (dsimp only; omega) | omega | (simp; omega) | simp)) | refine Cells3.keep ?_ hb9) | exact CM)) (by first | exact B7.k1 hb9 | exact B7.k)) ((go_at_call 8; go_must (refine (refLossFault_any M wt _ _ _ (MatAt.mk (show IntsAt _ a7 n7 k7 b7 o7 M.cells from xg.k)) (MatAt.mk (show IntsAt _ aw nw kw bw ow wt.cells from x2.k))).mono ?_); go_must (rintro e w9 ⟨rfl, hb9⟩)))
     have hk9 : Below w2.heap.size w2 w9 := (Below.x1 hb9)
     rw [HLO.out]
     replace hh := hh.keep hk9
     replace h := h.keep hk9
     replace r6 := r6.keep hk9
     replace CM := CM.keep hk9
     replace xg := xg.keep hk9
     replace x2 := x2.keep hk9
     replace B7 := B7.keep hk9
     replace B7c := B7.cell
     replace B7f := B7.thawed
     replace B7z := B7.lt
     have hbw9 : Below w.heap.size w w9 := (by repeat (first | (with_reducible first | exact Below.refl _ _ | refine Below.al ?_ _ | refine Below.drN ?_ _ | refine Below.drew ?_ | refine Below.sx ?_ _ | refine Below.go ?_ hk9 | refine Below.go ?_ hb2 | refine Below.go ?_ hb1) | exact Below.refl _ _))
     replace r1 := r1.keep hk9
     have h6z := r6.lt (Nat.succ_pos _)
     go_wp2_with fail
     go_cut [20, 21] (fun s t wx => ∃ p a5 n5 k5 b5 o5, s = .int .i64 (lossOf M wt) ∧ t = .pointer (some ⟨p, 0, none⟩) ∧ Box wx p [.int .i64 g.rows, .int .i64 g.cols, .slice a5 n5 k5] 25 ∧ IntsAt wx a5 n5 k5 b5 o5 g.cells ∧ Below w9.heap.size w9 wx)
     case first =>
      go_region_held3 (fun w' => w'.cell? ⟨b6, n * 3, none⟩ = some (.int .i64 M.rows) ∧ w'.cell? ⟨b6, n * 3 + 1, none⟩ = some (.int .i64 M.cols) ∧ w'.cell? ⟨b6, n * 3 + 2, none⟩ = some (.slice a7 n7 k7) ∧ w'.cell? ⟨w.heap.size + 1, 0, none⟩ = some (.int .i64 wt.rows) ∧ w'.cell? ⟨w.heap.size + 1, 1, none⟩ = some (.int .i64 wt.cols) ∧ w'.cell? ⟨w.heap.size + 1, 2, none⟩ = some (.slice aw nw kw)) (exact cells3b (t := 25) (by repeat (first | (with_reducible first | exact CM | refine Cells3.alloc ?_ _ | refine Cells3.drewN ?_ _ | refine Cells3.drew ?_ | (refine Cells3.far ?_ ?_ _; rotate_left 1; (first | (dsimp only; omega) | omega | (simp; omega) | simp)) | refine Cells3.keep ?_ hb5) | exact CM)) (by first | exact B7.k1 hb5 | exact B7.k)) ((go_at_call 9; go_must (refine (refLossOf_all M wt _ _ _ (MatAt.mk (show IntsAt _ a7 n7 k7 b7 o7 M.cells from xg.k)) (MatAt.mk (show IntsAt _ aw nw kw bw ow wt.cells from x2.k)) HLO.out).mono ?_); go_must (rw [HGB.out]); go_must (rintro e w5 ⟨v5, rfl, ⟨a5, n5, k5, b5, o5, rfl, hn5, x5⟩, hb5⟩); (try (refine (fun (P1 : Box w5 (w9.heap.size) [.int .i64 0, .int .i64 0, .slice none 0 0] 25) => ?_) ?_; rotate_left 1; (with_reducible refine Box.keep ?_ hb5); (focus ((repeat (first | (with_reducible refine (Box.new' _ (w9.heap.size) _ _ ?_); (simp; done)) | (with_reducible refine Box.alloc ?_ _) | (with_reducible refine Box.drew ?_) | (with_reducible refine Box.drewN ?_ _))); done)); have P1c := P1.cell; have P1f := P1.thawed; have P1z := P1.lt))))
      all_goals (
       go_wp2_with fail
       go_meet
       have h5l := x5.lt
       simp at hn5
       exact ⟨_, a5, n5, k5, b5, o5, rfl, rfl, (by repeat (first | (with_reducible first | (refine (Box.new' _ _ _ _ ?_); (simp; done)) | refine Box.alloc ?_ _ | refine Box.drewN ?_ _ | refine Box.drew ?_ | refine Box.set6z ?_ _ _ _ _ _ _ | refine Box.set3z ?_ _ _ _ | refine Box.fx ?_ _ | refine Box.keep ?_ hb5))), (by repeat (first | (with_reducible first | exact x5 | refine IntsAt.alloc ?_ _ | refine IntsAt.drewN ?_ _ | refine IntsAt.drew ?_ | (refine IntsAt.set ?_ ?_ _; rotate_left 1; (intro h0; have hq0 := hn5 h0; have hq1 := h5l h0; first | (dsimp only; omega) | omega | (simp; omega) | simp))) | exact x5)), (Below.x1 hb5)⟩)
     case rest =>
      obtain ⟨p21, a5, n5, k5, b5, o5, rfl, rfl, B21, x5, hbc⟩ := hcut
      have hbwc : Below w.heap.size w wc := (Below.y1 hbc hbw9)
      replace h := h.keep hbc
      replace r6 := r6.keep hbc
      replace hh := hh.keep hbc
      have B21 := B21
      have B21c := B21.cell
      have B21f := B21.thawed
      have B21z := B21.lt
      have B21k := lt_add B21z
      clear x1 x2 xg CM B6 B6c B6f B6z B6k B7 B7c B7f B7z B7k
      go_wp2_with fail
      refine (refNetBack_any ls (netOuts ls x n) g anyB _ _ _ n (n + 1) _ _ _ _ _ _ _ _ h r6 (MatAt.mk x5)).mono ?_
      rintro e w21 ⟨u3, d3, rfl, hb21, hu3, hu4⟩
      rw [HNB.out] at hu3 hu4 ⊢
      replace hh := hh.keep hb21
      obtain ⟨_, a8, k8, b8, rfl, r8⟩ := hu3 HF.out
      clear hu3 hu4
      replace r1 := (r1.keep hbc).keep hb21
      rw [HM.out, HGB.out] at r1
      try rw [HM.out]
      have HMI : Hid (mostRef n le = mostIs n le) := Lib.hid (most_is n (by omega) le (by omega) (by omega)).1
      have hbw : Below w.heap.size w w21 := (Below.y1 hb21 hbwc)
      clear h r6 x5 B21 B21c B21f B21z B21k
      go_wp2_with fail
      refine (refMostOf_any n le _ h12 hE1 hE12).mono ?_
      rw [HMI.out]
      rintro e w22 ⟨rfl, rfl⟩
      go_wp2_with fail
      refine (error_same f _ hh).mono ?_
      rintro e w31 ⟨rfl, hb31⟩
      replace hh := hh.keep hb31
      go_wp2_with fail
      refine (grads_same (bDs ls (netOuts ls x n) g n) _ _ _ _ _ _ _ _ _ _ _ _ _ (r1.keep hb31) (r8.keep hb31)).mono ?_
      rintro e w32 ⟨rfl, hb32⟩
      replace hh := hh.keep hb32
      have hbe : Below w.heap.size w w32 := (by repeat (first | (with_reducible first | exact Below.refl _ _ | exact hbw | refine Below.al ?_ _ | refine Below.drN ?_ _ | refine Below.drew ?_ | refine Below.sx ?_ _ | refine Below.go ?_ hb32 | refine Below.go ?_ hb31) | exact Below.refl _ _ | exact hbw))
      clear r1 r8
      by_cases hL1 : L < 0
      ·skip
       go_wp2_with fail
       refine (againMost_any L le _).mono ?_
       rintro e w7 ⟨rfl, hM⟩
       obtain rfl := hM.1 (by omega)
       clear hM
       go_wp2_with fail
       refine (error_same 1 _ hh).mono ?_
       rintro e w8 ⟨rfl, hb8⟩
       go_wp2
       go_ret
       exact ⟨rfl, (Below.y1 hb8 hbe)⟩
      ·by_cases hL2 : 12 < L
       ·skip
        go_wp2_with fail
        refine (againMost_any L le _).mono ?_
        rintro e w7 ⟨rfl, hM⟩
        obtain rfl := hM.1 (by omega)
        clear hM
        go_wp2_with fail
        refine (error_same 1 _ hh).mono ?_
        rintro e w8 ⟨rfl, hb8⟩
        go_wp2
        go_ret
        exact ⟨rfl, (Below.y1 hb8 hbe)⟩
       ·obtain ⟨ln, rfl⟩ : ∃ ln : Nat, L = ln := ⟨L.toNat, by omega⟩
        have HMR : Hid (mostIs ((ln : Int)).toNat ((le : Int)).toNat = mostRef ln le) := Lib.hid (by rw [Int.toNat_natCast, Int.toNat_natCast]; exact (most_is ln (by omega) le (by omega) (by omega)).1.symm)
        go_wp2_with fail
        refine (againMost_any ln le _).mono ?_
        rintro e w7 ⟨rfl, hM⟩
        obtain rfl := hM.2 (by omega) (by omega) (by omega) (by omega)
        clear hM
        rw [HMR.out]
        go_wp2_with fail
        refine (refMostOf_any ln le _ (by omega) (by omega) (by omega)).mono ?_
        rintro e w8 ⟨rfl, rfl⟩
        go_wp2
        go_ret
        exact ⟨rfl, (Below.y0 hbe)⟩
    ·have HF := Lib.hid hf0
     have hq : (f == 0) = false := by simp [hf0]
     clear hf0
     go_enter Tryz.func3, Tryz.ntmps3
     go_wp2_with fail
     refine (againBack_any ls x wt anyB _ _ _ _ _ _ _ _ ((h.alloc _).alloc _) (MatAt.mk ((x1.alloc _).alloc _)) (MatAt.mk ((x2.alloc _).alloc _)) le hE1 hE12).mono ?_
     rw [HAG.out]
     rintro e w1 ⟨v1, of, mo, rfl, hb1, _, hu1⟩
     have B6 := ((Box.new w [.int .i64 x.rows, .int .i64 x.cols, .slice ax nx kx] 25).alloc _).keep hb1
     have B6c := B6.cell
     have B6f := B6.thawed
     have B6z := B6.lt
     have B6k := lt_add B6z
     have B7 := ((show Box _ (w.heap.size + 1) [.int .i64 wt.rows, .int .i64 wt.cols, .slice aw nw kw] 25 from Box.x0)).keep hb1
     have B7c := B7.cell
     have B7f := B7.thawed
     have B7z := B7.lt
     have B7k := lt_add B7z
     have hkw1 : Below w.heap.size w w1 := (Below.x1 hb1)
     replace h := h.keep hkw1
     replace x1 := x1.keep hkw1
     replace x2 := x2.keep hkw1
     replace hh := hh.keep hkw1
     have hsw1 := hkw1.size
     obtain ⟨rfl, rfl, rfl⟩ := hu1 HF.out
     go_wp2_with fail
     refine (refNetGo_any ls anyB _ _ _ _ _ x _ _ h (MatAt.mk x1)).mono ?_
     rw [HGO.out]
     rintro e w2 ⟨v2, rfl, hb2, hv2, _⟩
     have hkw2 : Below w1.heap.size w1 w2 := (Below.x1 hb2)
     replace B6 := B6.keep hkw2
     replace B6c := B6.cell
     replace B6f := B6.thawed
     replace B6z := B6.lt
     replace B6k := lt_add B6z
     replace B7 := B7.keep hkw2
     replace B7c := B7.cell
     replace B7f := B7.thawed
     replace B7z := B7.lt
     replace B7k := lt_add B7z
     replace h := h.keep hkw2
     replace x1 := x1.keep hkw2
     replace x2 := x2.keep hkw2
     replace hh := hh.keep hkw2
     have hsw2 := hkw2.size
     clear hu1
     obtain ⟨a6, k6, b6, rfl, r6⟩ := hv2 rfl
     obtain ⟨a7, n7, k7, b7, o7, CM, xg⟩ := mats_cells (i := n) r6 (by omega)
     rw [HMX.out] at CM xg
     rw [Nat.zero_add] at CM
     obtain rfl := r6.ptr (Nat.succ_pos _)
     have hxl := xg.lt
     have pI : (n : Int) < (n : Int) + 1 := by omega
     clear hv2
     go_wp2_with fail
     go_region_held3 (fun w' => w'.cell? ⟨b6, n * 3, none⟩ = some (.int .i64 M.rows) ∧ w'.cell? ⟨b6, n * 3 + 1, none⟩ = some (.int .i64 M.cols) ∧ w'.cell? ⟨b6, n * 3 + 2, none⟩ = some (.slice a7 n7 k7) ∧ w'.cell? ⟨w.heap.size + 1, 0, none⟩ = some (.int .i64 wt.rows) ∧ w'.cell? ⟨w.heap.size + 1, 1, none⟩ = some (.int .i64 wt.cols) ∧ w'.cell? ⟨w.heap.size + 1, 2, none⟩ = some (.slice aw nw kw)) (exact cells3b (t := 25) (by repeat (first | (with_reducible first | exact CM | refine Cells3.alloc ?_ _ | refine Cells3.drewN ?_ _ | refine Cells3.drew ?_ | (refine Cells3.far ?_ ?_ _; rotate_left 1; (first | (dsimp only; omega) | omega | (simp; omega) | simp)) | refine Cells3.keep ?_ hb9) | exact CM)) (by first | exact B7.k1 hb9 | exact B7.k)) ((go_at_call 8; go_must (refine (refLossFault_any M wt _ _ _ (MatAt.mk (show IntsAt _ a7 n7 k7 b7 o7 M.cells from xg.k)) (MatAt.mk (show IntsAt _ aw nw kw bw ow wt.cells from x2.k))).mono ?_); go_must (rintro e w9 ⟨rfl, hb9⟩)))
     have hk9 : Below w2.heap.size w2 w9 := (Below.x1 hb9)
     rw [HLO.out]
     replace hh := hh.keep hk9
     replace h := h.keep hk9
     replace r6 := r6.keep hk9
     replace CM := CM.keep hk9
     replace xg := xg.keep hk9
     replace x2 := x2.keep hk9
     replace B7 := B7.keep hk9
     replace B7c := B7.cell
     replace B7f := B7.thawed
     replace B7z := B7.lt
     have hbw9 : Below w.heap.size w w9 := (by repeat (first | (with_reducible first | exact Below.refl _ _ | refine Below.al ?_ _ | refine Below.drN ?_ _ | refine Below.drew ?_ | refine Below.sx ?_ _ | refine Below.go ?_ hk9 | refine Below.go ?_ hb2 | refine Below.go ?_ hb1) | exact Below.refl _ _))
     have h6z := r6.lt (Nat.succ_pos _)
     go_wp2_with fail
     go_cut [20, 21] (fun s t wx => ∃ p a5 n5 k5 b5 o5, s = .int .i64 (lossOf M wt) ∧ t = .pointer (some ⟨p, 0, none⟩) ∧ Box wx p [.int .i64 g.rows, .int .i64 g.cols, .slice a5 n5 k5] 25 ∧ IntsAt wx a5 n5 k5 b5 o5 g.cells ∧ Below w9.heap.size w9 wx)
     case first =>
      go_region_held3 (fun w' => w'.cell? ⟨b6, n * 3, none⟩ = some (.int .i64 M.rows) ∧ w'.cell? ⟨b6, n * 3 + 1, none⟩ = some (.int .i64 M.cols) ∧ w'.cell? ⟨b6, n * 3 + 2, none⟩ = some (.slice a7 n7 k7) ∧ w'.cell? ⟨w.heap.size + 1, 0, none⟩ = some (.int .i64 wt.rows) ∧ w'.cell? ⟨w.heap.size + 1, 1, none⟩ = some (.int .i64 wt.cols) ∧ w'.cell? ⟨w.heap.size + 1, 2, none⟩ = some (.slice aw nw kw)) (exact cells3b (t := 25) (by repeat (first | (with_reducible first | exact CM | refine Cells3.alloc ?_ _ | refine Cells3.drewN ?_ _ | refine Cells3.drew ?_ | (refine Cells3.far ?_ ?_ _; rotate_left 1; (first | (dsimp only; omega) | omega | (simp; omega) | simp)) | refine Cells3.keep ?_ hb5) | exact CM)) (by first | exact B7.k1 hb5 | exact B7.k)) ((go_at_call 9; go_must (refine (refLossOf_all M wt _ _ _ (MatAt.mk (show IntsAt _ a7 n7 k7 b7 o7 M.cells from xg.k)) (MatAt.mk (show IntsAt _ aw nw kw bw ow wt.cells from x2.k)) HLO.out).mono ?_); go_must (rw [HGB.out]); go_must (rintro e w5 ⟨v5, rfl, ⟨a5, n5, k5, b5, o5, rfl, hn5, x5⟩, hb5⟩); (try (refine (fun (P1 : Box w5 (w9.heap.size) [.int .i64 0, .int .i64 0, .slice none 0 0] 25) => ?_) ?_; rotate_left 1; (with_reducible refine Box.keep ?_ hb5); (focus ((repeat (first | (with_reducible refine (Box.new' _ (w9.heap.size) _ _ ?_); (simp; done)) | (with_reducible refine Box.alloc ?_ _) | (with_reducible refine Box.drew ?_) | (with_reducible refine Box.drewN ?_ _))); done)); have P1c := P1.cell; have P1f := P1.thawed; have P1z := P1.lt))))
      all_goals (
       go_wp2_with fail
       go_meet
       have h5l := x5.lt
       simp at hn5
       exact ⟨_, a5, n5, k5, b5, o5, rfl, rfl, (by repeat (first | (with_reducible first | (refine (Box.new' _ _ _ _ ?_); (simp; done)) | refine Box.alloc ?_ _ | refine Box.drewN ?_ _ | refine Box.drew ?_ | refine Box.set6z ?_ _ _ _ _ _ _ | refine Box.set3z ?_ _ _ _ | refine Box.fx ?_ _ | refine Box.keep ?_ hb5))), (by repeat (first | (with_reducible first | exact x5 | refine IntsAt.alloc ?_ _ | refine IntsAt.drewN ?_ _ | refine IntsAt.drew ?_ | (refine IntsAt.set ?_ ?_ _; rotate_left 1; (intro h0; have hq0 := hn5 h0; have hq1 := h5l h0; first | (dsimp only; omega) | omega | (simp; omega) | simp))) | exact x5)), (Below.x1 hb5)⟩)
     case rest =>
      obtain ⟨p21, a5, n5, k5, b5, o5, rfl, rfl, B21, x5, hbc⟩ := hcut
      have hbwc : Below w.heap.size w wc := (Below.y1 hbc hbw9)
      replace h := h.keep hbc
      replace r6 := r6.keep hbc
      replace hh := hh.keep hbc
      have B21 := B21
      have B21c := B21.cell
      have B21f := B21.thawed
      have B21z := B21.lt
      have B21k := lt_add B21z
      clear x1 x2 xg CM B6 B6c B6f B6z B6k B7 B7c B7f B7z B7k
      go_wp2_with fail
      refine (refNetBack_any ls (netOuts ls x n) g anyB _ _ _ n (n + 1) _ _ _ _ _ _ _ _ h r6 (MatAt.mk x5)).mono ?_
      rintro e w21 ⟨u3, d3, rfl, hb21, hu3, hu4⟩
      rw [HNB.out] at hu3 hu4 ⊢
      replace hh := hh.keep hb21
      obtain ⟨rfl, rfl⟩ := hu4 HF.out
      clear hu3 hu4 h r6 x5 B21 B21c B21f B21z B21k
      have hbw : Below w.heap.size w w21 := (Below.y1 hb21 hbwc)
      go_wp2_with fail
      refine (error_same f _ hh).mono ?_
      rintro e w31 ⟨rfl, hb31⟩
      replace hh := hh.keep hb31
      go_wp2_with fail
      refine (grads_same [] anyB anyB none none 0 0 0 0 0 0 0 0 _ (RowAt.nil _ _ _) (RowAt.nil _ _ _)).mono ?_
      rintro e w32 ⟨rfl, hb32⟩
      replace hh := hh.keep hb32
      have hbe : Below w.heap.size w w32 := (by repeat (first | (with_reducible first | exact Below.refl _ _ | exact hbw | refine Below.al ?_ _ | refine Below.drN ?_ _ | refine Below.drew ?_ | refine Below.sx ?_ _ | refine Below.go ?_ hb32 | refine Below.go ?_ hb31) | exact Below.refl _ _ | exact hbw))
      by_cases hL1 : L < 0
      ·skip
       go_wp2_with fail
       refine (againMost_any L le _).mono ?_
       rintro e w7 ⟨rfl, hM⟩
       obtain rfl := hM.1 (by omega)
       clear hM
       go_wp2_with fail
       refine (error_same 1 _ hh).mono ?_
       rintro e w8 ⟨rfl, hb8⟩
       go_wp2
       go_ret
       exact ⟨rfl, (Below.y1 hb8 hbe)⟩
      ·by_cases hL2 : 12 < L
       ·skip
        go_wp2_with fail
        refine (againMost_any L le _).mono ?_
        rintro e w7 ⟨rfl, hM⟩
        obtain rfl := hM.1 (by omega)
        clear hM
        go_wp2_with fail
        refine (error_same 1 _ hh).mono ?_
        rintro e w8 ⟨rfl, hb8⟩
        go_wp2
        go_ret
        exact ⟨rfl, (Below.y1 hb8 hbe)⟩
       ·obtain ⟨ln, rfl⟩ : ∃ ln : Nat, L = ln := ⟨L.toNat, by omega⟩
        have HMR : Hid (mostIs ((ln : Int)).toNat ((le : Int)).toNat = mostRef ln le) := Lib.hid (by rw [Int.toNat_natCast, Int.toNat_natCast]; exact (most_is ln (by omega) le (by omega) (by omega)).1.symm)
        go_wp2_with fail
        refine (againMost_any ln le _).mono ?_
        rintro e w7 ⟨rfl, hM⟩
        obtain rfl := hM.2 (by omega) (by omega) (by omega) (by omega)
        clear hM
        rw [HMR.out]
        go_wp2_with fail
        refine (refMostOf_any ln le _ (by omega) (by omega) (by omega)).mono ?_
        rintro e w8 ⟨rfl, rfl⟩
        go_wp2
        go_ret
        exact ⟨rfl, (Below.y0 hbe)⟩
   ·obtain ⟨f, hf⟩ : ∃ f, lossFault M wt = f := ⟨_, rfl⟩
    rw [hf] at hlo
    have HAG : Hid (agFault ls x wt = f) := Lib.hid (by
     unfold agFault
     rw [if_neg (fun h => h hgo), hn, hM, if_pos (by rw [hf]; exact hlo), hf])
    have HLF := Lib.hid hf
    have HF := Lib.hid hlo
    have hq : (f == 0) = false := by simp [hlo]
    have HM := Lib.hid hM
    clear hf hlo hgo hxf hgt
    go_enter Tryz.func3, Tryz.ntmps3
    go_wp2_with fail
    refine (againBack_any ls x wt anyB _ _ _ _ _ _ _ _ ((h.alloc _).alloc _) (MatAt.mk ((x1.alloc _).alloc _)) (MatAt.mk ((x2.alloc _).alloc _)) le hE1 hE12).mono ?_
    rw [HAG.out]
    rintro e w1 ⟨v1, of, mo, rfl, hb1, _, hu1⟩
    have B6 := ((Box.new w [.int .i64 x.rows, .int .i64 x.cols, .slice ax nx kx] 25).alloc _).keep hb1
    have B6c := B6.cell
    have B6f := B6.thawed
    have B6z := B6.lt
    have B6k := lt_add B6z
    have B7 := ((show Box _ (w.heap.size + 1) [.int .i64 wt.rows, .int .i64 wt.cols, .slice aw nw kw] 25 from Box.x0)).keep hb1
    have B7c := B7.cell
    have B7f := B7.thawed
    have B7z := B7.lt
    have B7k := lt_add B7z
    have hkw1 : Below w.heap.size w w1 := (Below.x1 hb1)
    replace h := h.keep hkw1
    replace x1 := x1.keep hkw1
    replace x2 := x2.keep hkw1
    replace hh := hh.keep hkw1
    have hsw1 := hkw1.size
    obtain ⟨rfl, rfl, rfl⟩ := hu1 HF.out
    go_wp2_with fail
    refine (refNetGo_any ls anyB _ _ _ _ _ x _ _ h (MatAt.mk x1)).mono ?_
    rw [HGO.out]
    rintro e w2 ⟨v2, rfl, hb2, hv2, _⟩
    have hkw2 : Below w1.heap.size w1 w2 := (Below.x1 hb2)
    replace B6 := B6.keep hkw2
    replace B6c := B6.cell
    replace B6f := B6.thawed
    replace B6z := B6.lt
    replace B6k := lt_add B6z
    replace B7 := B7.keep hkw2
    replace B7c := B7.cell
    replace B7f := B7.thawed
    replace B7z := B7.lt
    replace B7k := lt_add B7z
    replace h := h.keep hkw2
    replace x1 := x1.keep hkw2
    replace x2 := x2.keep hkw2
    replace hh := hh.keep hkw2
    have hsw2 := hkw2.size
    clear hu1
    obtain ⟨a6, k6, b6, rfl, r6⟩ := hv2 rfl
    obtain ⟨a7, n7, k7, b7, o7, CM, xg⟩ := mats_cells (i := n) r6 (by omega)
    rw [HMX.out] at CM xg
    rw [Nat.zero_add] at CM
    obtain rfl := r6.ptr (Nat.succ_pos _)
    have hxl := xg.lt
    have pI : (n : Int) < (n : Int) + 1 := by omega
    clear hv2
    go_wp2_with fail
    go_region_held3 (fun w' => w'.cell? ⟨b6, n * 3, none⟩ = some (.int .i64 M.rows) ∧ w'.cell? ⟨b6, n * 3 + 1, none⟩ = some (.int .i64 M.cols) ∧ w'.cell? ⟨b6, n * 3 + 2, none⟩ = some (.slice a7 n7 k7) ∧ w'.cell? ⟨w.heap.size + 1, 0, none⟩ = some (.int .i64 wt.rows) ∧ w'.cell? ⟨w.heap.size + 1, 1, none⟩ = some (.int .i64 wt.cols) ∧ w'.cell? ⟨w.heap.size + 1, 2, none⟩ = some (.slice aw nw kw)) (exact cells3b (t := 25) (by repeat (first | (with_reducible first | exact CM | refine Cells3.alloc ?_ _ | refine Cells3.drewN ?_ _ | refine Cells3.drew ?_ | (refine Cells3.far ?_ ?_ _; rotate_left 1; (first | (dsimp only; omega) | omega | (simp; omega) | simp)) | refine Cells3.keep ?_ hb9) | exact CM)) (by first | exact B7.k1 hb9 | exact B7.k)) ((go_at_call 8; go_must (refine (refLossFault_any M wt _ _ _ (MatAt.mk (show IntsAt _ a7 n7 k7 b7 o7 M.cells from xg.k)) (MatAt.mk (show IntsAt _ aw nw kw bw ow wt.cells from x2.k))).mono ?_); go_must (rintro e w9 ⟨rfl, hb9⟩)))
    have hk9 : Below w2.heap.size w2 w9 := (Below.x1 hb9)
    rw [HLF.out]
    replace hh := hh.keep hk9
    have hbw9 : Below w.heap.size w w9 := (by repeat (first | (with_reducible first | exact Below.refl _ _ | refine Below.al ?_ _ | refine Below.drN ?_ _ | refine Below.drew ?_ | refine Below.sx ?_ _ | refine Below.go ?_ hk9 | refine Below.go ?_ hb2 | refine Below.go ?_ hb1) | exact Below.refl _ _))
    go_wp2_with fail
    refine (error_same f _ hh).mono ?_
    rintro e w10 ⟨rfl, hb10⟩
    replace hh := hh.keep hb10
    go_wp2_with fail
    refine (grads_same [] anyB anyB none none 0 0 0 0 0 0 0 0 _ (RowAt.nil _ _ _) (RowAt.nil _ _ _)).mono ?_
    rintro e w11 ⟨rfl, hb11⟩
    replace hh := hh.keep hb11
    have hbe : Below w.heap.size w w11 := (by repeat (first | (with_reducible first | exact Below.refl _ _ | exact hbw9 | refine Below.al ?_ _ | refine Below.drN ?_ _ | refine Below.drew ?_ | refine Below.sx ?_ _ | refine Below.go ?_ hb11 | refine Below.go ?_ hb10) | exact Below.refl _ _ | exact hbw9))
    by_cases hL1 : L < 0
    ·skip
     go_wp2_with fail
     refine (againMost_any L le _).mono ?_
     rintro e w7 ⟨rfl, hM⟩
     obtain rfl := hM.1 (by omega)
     clear hM
     go_wp2_with fail
     refine (error_same 1 _ hh).mono ?_
     rintro e w8 ⟨rfl, hb8⟩
     go_wp2
     go_ret
     exact ⟨rfl, (Below.y1 hb8 hbe)⟩
    ·by_cases hL2 : 12 < L
     ·skip
      go_wp2_with fail
      refine (againMost_any L le _).mono ?_
      rintro e w7 ⟨rfl, hM⟩
      obtain rfl := hM.1 (by omega)
      clear hM
      go_wp2_with fail
      refine (error_same 1 _ hh).mono ?_
      rintro e w8 ⟨rfl, hb8⟩
      go_wp2
      go_ret
      exact ⟨rfl, (Below.y1 hb8 hbe)⟩
     ·obtain ⟨ln, rfl⟩ : ∃ ln : Nat, L = ln := ⟨L.toNat, by omega⟩
      have HMR : Hid (mostIs ((ln : Int)).toNat ((le : Int)).toNat = mostRef ln le) := Lib.hid (by rw [Int.toNat_natCast, Int.toNat_natCast]; exact (most_is ln (by omega) le (by omega) (by omega)).1.symm)
      go_wp2_with fail
      refine (againMost_any ln le _).mono ?_
      rintro e w7 ⟨rfl, hM⟩
      obtain rfl := hM.2 (by omega) (by omega) (by omega) (by omega)
      clear hM
      rw [HMR.out]
      go_wp2_with fail
      refine (refMostOf_any ln le _ (by omega) (by omega) (by omega)).mono ?_
      rintro e w8 ⟨rfl, rfl⟩
      go_wp2
      go_ret
      exact ⟨rfl, (Below.y0 hbe)⟩
  ·obtain ⟨f, hf⟩ : ∃ f, netGoFault ls x = f := ⟨_, rfl⟩
   have HGF := Lib.hid hf
   rw [hf] at hgo
   have HAG : Hid (agFault ls x wt = f) := Lib.hid (by
    unfold agFault
    rw [if_pos (by rw [hf]; exact hgo), hf])
   have HF := Lib.hid hgo
   have hq : (f == 0) = false := by simp [hgo]
   have HGN : Hid (netGoFault ls x ≠ 0) := Lib.hid (by rw [hf]; exact hgo)
   clear hf hgo
   go_enter Tryz.func3, Tryz.ntmps3
   go_wp2_with fail
   refine (againBack_any ls x wt anyB _ _ _ _ _ _ _ _ ((h.alloc _).alloc _) (MatAt.mk ((x1.alloc _).alloc _)) (MatAt.mk ((x2.alloc _).alloc _)) le hE1 hE12).mono ?_
   rw [HAG.out]
   rintro e w1 ⟨v1, of, mo, rfl, hb1, _, hu1⟩
   have B6 := ((Box.new w [.int .i64 x.rows, .int .i64 x.cols, .slice ax nx kx] 25).alloc _).keep hb1
   have B6c := B6.cell
   have B6f := B6.thawed
   have B6z := B6.lt
   have B6k := lt_add B6z
   have B7 := ((show Box _ (w.heap.size + 1) [.int .i64 wt.rows, .int .i64 wt.cols, .slice aw nw kw] 25 from Box.x0)).keep hb1
   have B7c := B7.cell
   have B7f := B7.thawed
   have B7z := B7.lt
   have B7k := lt_add B7z
   have hkw1 : Below w.heap.size w w1 := (Below.x1 hb1)
   replace h := h.keep hkw1
   replace x1 := x1.keep hkw1
   replace x2 := x2.keep hkw1
   replace hh := hh.keep hkw1
   have hsw1 := hkw1.size
   obtain ⟨rfl, rfl, rfl⟩ := hu1 HF.out
   go_wp2_with fail
   refine (refNetGo_any ls anyB _ _ _ _ _ x _ _ h (MatAt.mk x1)).mono ?_
   rw [HGF.out]
   rintro e w2 ⟨v2, rfl, hb2, _, hv2⟩
   have hkw2 : Below w1.heap.size w1 w2 := (Below.x1 hb2)
   replace B6 := B6.keep hkw2
   replace B6c := B6.cell
   replace B6f := B6.thawed
   replace B6z := B6.lt
   replace B6k := lt_add B6z
   replace B7 := B7.keep hkw2
   replace B7c := B7.cell
   replace B7f := B7.thawed
   replace B7z := B7.lt
   replace B7k := lt_add B7z
   replace h := h.keep hkw2
   replace x1 := x1.keep hkw2
   replace x2 := x2.keep hkw2
   replace hh := hh.keep hkw2
   have hsw2 := hkw2.size
   obtain rfl := hv2 HF.out
   clear hu1 hv2 h x1 x2
   go_wp2_with fail
   refine (error_same f _ hh).mono ?_
   rintro e w3 ⟨rfl, hb3⟩
   replace hh := hh.keep hb3
   go_wp2_with fail
   refine (grads_same [] anyB anyB none none 0 0 0 0 0 0 0 0 _ (RowAt.nil _ _ _) (RowAt.nil _ _ _)).mono ?_
   rintro e w4 ⟨rfl, hb4⟩
   replace hh := hh.keep hb4
   have hbe : Below w.heap.size w w4 := (by repeat (first | (with_reducible first | exact Below.refl _ _ | refine Below.al ?_ _ | refine Below.drN ?_ _ | refine Below.drew ?_ | refine Below.sx ?_ _ | refine Below.go ?_ hb4 | refine Below.go ?_ hb3 | refine Below.go ?_ hb2 | refine Below.go ?_ hb1) | exact Below.refl _ _))
   by_cases hL1 : L < 0
   ·skip
    go_wp2_with fail
    refine (againMost_any L le _).mono ?_
    rintro e w7 ⟨rfl, hM⟩
    obtain rfl := hM.1 (by omega)
    clear hM
    go_wp2_with fail
    refine (error_same 1 _ hh).mono ?_
    rintro e w8 ⟨rfl, hb8⟩
    go_wp2
    go_ret
    exact ⟨rfl, (Below.y1 hb8 hbe)⟩
   ·by_cases hL2 : 12 < L
    ·skip
     go_wp2_with fail
     refine (againMost_any L le _).mono ?_
     rintro e w7 ⟨rfl, hM⟩
     obtain rfl := hM.1 (by omega)
     clear hM
     go_wp2_with fail
     refine (error_same 1 _ hh).mono ?_
     rintro e w8 ⟨rfl, hb8⟩
     go_wp2
     go_ret
     exact ⟨rfl, (Below.y1 hb8 hbe)⟩
    ·obtain ⟨ln, rfl⟩ : ∃ ln : Nat, L = ln := ⟨L.toNat, by omega⟩
     have HMR : Hid (mostIs ((ln : Int)).toNat ((le : Int)).toNat = mostRef ln le) := Lib.hid (by rw [Int.toNat_natCast, Int.toNat_natCast]; exact (most_is ln (by omega) le (by omega) (by omega)).1.symm)
     go_wp2_with fail
     refine (againMost_any ln le _).mono ?_
     rintro e w7 ⟨rfl, hM⟩
     obtain rfl := hM.2 (by omega) (by omega) (by omega) (by omega)
     clear hM
     rw [HMR.out]
     go_wp2_with fail
     refine (refMostOf_any ln le _ (by omega) (by omega) (by omega)).mono ?_
     rintro e w8 ⟨rfl, rfl⟩
     go_wp2
     go_ret
     exact ⟨rfl, (Below.y0 hbe)⟩
theorem own : ownKnob Tryz.prog.godebug = none := by kernel_rfl
theorem laidOut : laidOutB Tryz.prog = true := by kernel_rfl
theorem et : Tryz.prog.globalNamed "errors.errorType" = some 0 := by kernel_rfl
theorem rt : (Tryz.prog.cutTypes.find? (·.1 == "internal/reflectlite.rtype")).map (·.2) = some 182 := by kernel_rfl
theorem oneRow : ((List.range 229).filter fun t => Tryz.prog.rowNamed t [101, 114, 114, 111, 114]) = [28] := by kernel_rfl
theorem tsize : Tryz.prog.types.size = 229 := by kernel_rfl
theorem handle_of_laid {W : World} (h : laidMetH Tryz.prog Rows.againBacksRow.laid W) : Handle W := by
 have h' : laidMet Tryz.prog [] W ∧ handlesMet Tryz.prog Rows.againBacksRow.laid W := h
 obtain ⟨name, u, ty, e1, e2, e3, e4, e5⟩ := h'.2 _ (List.mem_singleton.2 rfl)
 have en : name = [101, 114, 114, 111, 114] := (Option.some.inj e1).symm
 subst en
 obtain rfl := Option.some.inj (rt.symm.trans e2)
 have hm : ty ∈ (List.range 229).filter fun t => Tryz.prog.rowNamed t [101, 114, 114, 111, 114] := List.mem_filter.2 ⟨List.mem_range.2 (by rw [← tsize]; exact e3), e4⟩
 rw [oneRow] at hm
 obtain rfl := List.mem_singleton.1 hm
 have hh : typeHandle Tryz.prog 28 = .pointer (some ⟨1, 28, none⟩) := by kernel_rfl
 rw [hh] at e5
 simpa [Handle, handleV] using World.var?_cell et e5 0
noncomputable def laidWorld (os : Os) : World :=
 { World.holding Tryz.prog os ⟨#[], #[], []⟩ with heap := (World.holding Tryz.prog os ⟨#[], #[], []⟩).heap.modify 0 fun
   | .cells _ t frozen => .cells #[.iface 182 (.agg #[.pointer (some ⟨1, 28, none⟩)])] t frozen
   | o => o }
theorem laid_met (os : Os) : laidMetH Tryz.prog Rows.againBacksRow.laid ((laidWorld os).forCall (fun _ _ => 0) ⟨#[], #[.slice none 0 0, .agg #[.int .i64 0, .int .i64 0, .slice none 0 0], .agg #[.int .i64 0, .int .i64 0, .slice none 0 0], .int .i64 0, .int .i64 0], []⟩).memory :=
 laidMetH_of_parts (laidMet_nil _ _) (by kernel_rfl)
theorem reads (os : Os) {H : Type} (enc : TypeId × Value → H) : ∃ places, DataW.whole enc Tryz.prog ((laidWorld os).forCall (fun _ _ => 0) ⟨#[], #[.slice none 0 0, .agg #[.int .i64 0, .int .i64 0, .slice none 0 0], .agg #[.int .i64 0, .int .i64 0, .slice none 0 0], .int .i64 0, .int .i64 0], []⟩).memory Tryz.f3.params.toList Rows.againBacksSpec.vars false (#[.slice none 0 0, .agg #[.int .i64 0, .int .i64 0, .slice none 0 0], .agg #[.int .i64 0, .int .i64 0, .slice none 0 0], .int .i64 0, .int .i64 0] : Array Value).toList 8 = some ([.nil, .agg [.lit (.int .i64 0), .lit (.int .i64 0), .nil], .agg [.lit (.int .i64 0), .lit (.int .i64 0), .nil], .lit (.int .i64 0), .lit (.int .i64 0)], [], places) :=
 ⟨[], by kernel_rfl⟩
set_option maxRecDepth 100000 in
set_option maxHeartbeats 1000000 in
theorem contract (H : Type) (enc : TypeId × Value → H) (W : World) (base : Nat) (args : Array Value) (ds gs : List (DataW H)) (before : List MemPlace)
  (hval0 : ∀ (j : Nat) t v, Tryz.f3.params[j]? = some t → args[j]? = some v → Value.okWide Tryz.prog W .any base t v)
  (hW : DataW.Whole enc Tryz.prog Tryz.f3.params.toList Rows.againBacksSpec.vars false W args.toList ds gs before) (hh : Handle W) :
  Calls Tryz.prog 3 args W fun e W' => ∃ v, e = .returned v ∧ Rows.againBacksSpec.post enc Tryz.prog Tryz.f3 false true false false W args v W' := by
 have hval := hval0
 have hW' := hW
 obtain ⟨p, q, hA0, hV, rfl, hfz, hnd⟩ := hW
 have hA : DataW.TrodAll enc Tryz.prog W 0 (fun _ => true) true Tryz.f3.params.toList args.toList ds p := hA0
 rw [Tryz.params3] at hA hval
 obtain ⟨v0, vs0, d0, ds0, p0, q0, hargs, rfl, rfl, h0, r0⟩ := trodAll_cons hA
 obtain ⟨v1, vs1, d1, ds1, p1, q1, rfl, rfl, rfl, h1, r1⟩ := trodAll_cons r0
 obtain ⟨v2, vs2, d2, ds2, p2, q2, rfl, rfl, rfl, h2, r2⟩ := trodAll_cons r1
 obtain ⟨v3, vs3, d3, ds3, p3, q3, rfl, rfl, rfl, h3, r3⟩ := trodAll_cons r2
 obtain ⟨v4, vs4, d4, ds4, p4, q4, rfl, rfl, rfl, h4, r4⟩ := trodAll_cons r3
 obtain ⟨rfl, rfl, rfl⟩ := trodAll_nil r4
 obtain rfl : args = #[v0, v1, v2, v3, v4] := by cases args; simp_all
 obtain ⟨rfl, rfl⟩ := trodVars_none hV
 have k0 := h0
 have lt0 : ∀ x ∈ p0, x.block < W.heap.size := by obtain ⟨m, hm⟩ := k0; exact DataW.trod_lt m _ _ _ hm
 have k1 := h1
 have lt1 : ∀ x ∈ p1, x.block < W.heap.size := by obtain ⟨m, hm⟩ := k1; exact DataW.trod_lt m _ _ _ hm
 have k2 := h2
 have lt2 : ∀ x ∈ p2, x.block < W.heap.size := by obtain ⟨m, hm⟩ := k2; exact DataW.trod_lt m _ _ _ hm
 have k3 := h3
 have lt3 : ∀ x ∈ p3, x.block < W.heap.size := by obtain ⟨m, hm⟩ := k3; exact DataW.trod_lt m _ _ _ hm
 have k4 := h4
 have lt4 : ∀ x ∈ p4, x.block < W.heap.size := by obtain ⟨m, hm⟩ := k4; exact DataW.trod_lt m _ _ _ hm
 obtain ⟨a0, w0⟩ := open_lLayer (hval 0 22 v0 rfl rfl) h0
 obtain ⟨a1, w1⟩ := open_mat (hval 1 25 v1 rfl rfl) h1
 obtain ⟨a2, w2⟩ := open_mat (hval 2 25 v2 rfl rfl) h2
 obtain ⟨a3, rfl, rfl, rfl, w3⟩ := open_int Tryz.underlying3 (hval 3 3 v3 rfl rfl) h3
 obtain ⟨a4, rfl, rfl, rfl, w4⟩ := open_int Tryz.underlying3 (hval 4 3 v4 rfl rfl) h4
 clear hA0 hval0
 refine (walk a0 v0 a1 v1 a2 v2 a3 a4 W w0 w1 w2 w3 w4 hh).mono fun e W' ⟨he, bel⟩ => ?_
 subst he
 exact ⟨_, rfl, _, _, _, [], _, [], hW', trodAll_mk1 (shut_bool Tryz.underlying4 _), (trodAll_cons_mk (Below.trod laidOut (by kernel_rfl) (of_decide_eq_true (by kernel_rfl)) k0 bel lt0) (trodAll_cons_mk (Below.trod laidOut (by kernel_rfl) (of_decide_eq_true (by kernel_rfl)) k1 bel lt1) (trodAll_cons_mk (Below.trod laidOut (by kernel_rfl) (of_decide_eq_true (by kernel_rfl)) k2 bel lt2) (trodAll_cons_mk (Below.trod laidOut (by kernel_rfl) (of_decide_eq_true (by kernel_rfl)) k3 bel lt3) (trodAll_cons_mk (Below.trod laidOut (by kernel_rfl) (of_decide_eq_true (by kernel_rfl)) k4 bel lt4) trodAll_mk0))))), rfl, bel.frame _, fun h => by cases h⟩
set_option maxRecDepth 100000 in
theorem lifted (os : Os) (started : os.Started) (H : Type) (enc : TypeId × Value → H) (F : Stop.Interp) :
  ReturnsInHanded {} Tryz.checked os 3 .any ((OpenSpec.ofChange Rows.againBacksSpec).preRow enc Tryz.prog Tryz.f3 Rows.againBacksRow.domain false Rows.againBacksRow.laid) (((OpenSpec.ofChange Rows.againBacksSpec).at F).post enc Tryz.prog Tryz.f3 false true false false) := by
 obtain ⟨places, hx⟩ := reads os enc
 refine returnsInHanded_of_row (C := Tryz.checked) (s := OpenSpec.ofChange Rows.againBacksSpec) own started (by kernel_rfl) Tryz.func3
  (witness_row_at (enc := enc) (C := Tryz.checked) false (laidWorld os) #[.slice none 0 0, .agg #[.int .i64 0, .int .i64 0, .slice none 0 0], .agg #[.int .i64 0, .int .i64 0, .slice none 0 0], .int .i64 0, .int .i64 0] rfl (by kernel_rfl) (by kernel_rfl) (by kernel_rfl)
   (OpenSpec.preRow_of_cond 8 hx (by kernel_rfl) (fun k hk => by cases hk) (by kernel_rfl) (laid_met os))) ?_
 intro W base args ds gs before hval hW _ _ _ hL _ _
 exact contract H enc W base args ds gs before hval hW (handle_of_laid hL)
theorem said : Rows.AgainBacksSaid :=
 OpenClaim.holds_of_cond 3 Tryz.f3 rfl rfl rfl rfl rfl rfl rfl ⟨rfl, rfl, rfl, rfl, rfl⟩ rfl rfl rfl rfl rfl (by kernel_rfl) Tryz.func3 (by kernel_rfl)
  (of_decide_eq_true (by kernel_rfl)) (by unfold Func.isWrapper; first | (rw [if_pos (by decide +kernel)]; kernel_rfl) | (rw [if_neg (by decide +kernel)]; exact ⟨rfl, rfl⟩))
  (fun os started H enc _ F => by rw [OpenClaim.pre_eq_preRow]; exact lifted os started H enc F)
theorem plain (f : FuncId) (fn : Func) (hf : Tryz.pinned.checked.prog.funcNamed Rows.againBacksRow.func = some f) (hfn : Tryz.pinned.checked.prog.funcs[f]? = some fn) :
  Rows.againBacksCard.stood.looks = Tryz.pinned.checked.prog.looks [] ∧ ∀ (j : Nat) t, fn.params[j]? = some t → Tryz.pinned.checked.prog.wantsStandIn t = false := by
 obtain rfl : f = 3 := Option.some.inj ((show Tryz.prog.funcNamed Rows.againBacksRow.func = some 3 by kernel_rfl).symm.trans hf) |>.symm
 obtain rfl : fn = Tryz.f3 := (Option.some.inj (Tryz.func3.symm.trans hfn)).symm
 refine ⟨by kernel_rfl, fun j t ht => ?_⟩
 rw [Tryz.params3] at ht
 have hm := Array.mem_of_getElem? ht
 have hc : t = 22 ∨ t = 25 ∨ t = 25 ∨ t = 3 ∨ t = 3 := by simpa using hm
 rcases hc with rfl | rfl | rfl | rfl | rfl
 ·exact (show Tryz.prog.wantsStandIn 22 = false by kernel_rfl)
 ·exact (show Tryz.prog.wantsStandIn 25 = false by kernel_rfl)
 ·exact (show Tryz.prog.wantsStandIn 25 = false by kernel_rfl)
 ·exact (show Tryz.prog.wantsStandIn 3 = false by kernel_rfl)
 ·exact (show Tryz.prog.wantsStandIn 3 = false by kernel_rfl)
theorem proved : Rows.AgainBacksCardSaid :=
 Claim7.holds_tied_plain_at .later [] _ _ _ _ said (fun _ h => by cases h) (by kernel_rfl) (fun _ h => by cases h) againBacks_row_tie rfl ⟨rfl, rfl⟩ (by kernel_rfl) rfl plain (by kernel_rfl)
#print axioms proved
end Go.Proofs.YtgknjikjjklaiaaGreatDoor.lawAgainBacks
