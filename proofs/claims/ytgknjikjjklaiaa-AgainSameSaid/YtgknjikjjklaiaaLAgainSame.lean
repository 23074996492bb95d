/- AgainSame: whatever is kept, what goes back is the same, to the last bit; and no more is kept than all: the law returns true, and the input reads as it did. No condition. -/
import Derived.Test.YtgknjikjjklaiaaRows
import Derived.Test.YtgknjikjjklaiaaJ35
import Derived.Test.YtgknjikjjklaiaaJ36
import Derived.Test.YtgknjikjjklaiaaJ17
import Derived.Test.YtgknjikjjklaiaaJ06
import Derived.Test.YtgknjikjjklaiaaJ39
import Derived.Deep.RegionHeld3
import Derived.Deep.CutBlock
import Derived.Deep.DeepCutAuto
import Derived.Deep.DeepHandedRow
set_option linter.unusedVariables false
set_option linter.unusedSimpArgs false
set_option linter.unusedSectionVars false
namespace Go.Proofs.Ytgknjikjjklaiaa.lawAgainSame
open Go.ChangeShapes Go.WideShapes Go.ChangeAt Go.RowKit Gal
set_option maxRecDepth 100000
set_option maxHeartbeats 8000000
theorem nb_is {ls : List Lay} {x wt : Mat} {n : Nat} (hn : ls.length = n) (h12 : n ≤ 12) (hm : (netTo ls x n).fault = 0) : netBackFault ls (netOuts ls x n) (lossBack (netTo ls x n) wt) = bF ls (netOuts ls x n) (lossBack (netTo ls x n) wt) n n := by
 subst hn
 unfold netBackFault
 rw [if_neg (by omega), if_neg (by rw [netOuts_length]; simp)]
 by_cases h0 : ls.length = 0
 ·rw [if_pos h0, lossBack_fault hm, h0]; rfl
 ·rw [if_neg h0]
theorem cells3b {w : World} {b i c : Nat} {t : TypeId} {x y z u v s : Value} (h : Cells3 w b i x y z) (k : Box w c [u, v, s] t) :
  w.cell? ⟨b, i, none⟩ = some x ∧ w.cell? ⟨b, i + 1, none⟩ = some y ∧ w.cell? ⟨b, i + 2, none⟩ = some z ∧ w.cell? ⟨c, 0, none⟩ = some u ∧ w.cell? ⟨c, 1, none⟩ = some v ∧ w.cell? ⟨c, 2, none⟩ = some s := ⟨h.c0, h.c1, h.c2, k.cell 0, k.cell 1, k.cell 2⟩
theorem boxes33 {w : World} {b c : Nat} {t u : TypeId} {x y z x' y' z' : Value} (h : Box w b [x, y, z] t) (k : Box w c [x', y', z'] u) :
  w.cell? ⟨b, 0, none⟩ = some x ∧ w.cell? ⟨b, 1, none⟩ = some y ∧ w.cell? ⟨b, 2, none⟩ = some z ∧ w.cell? ⟨c, 0, none⟩ = some x' ∧ w.cell? ⟨c, 1, none⟩ = some y' ∧ w.cell? ⟨c, 2, none⟩ = some z' := ⟨h.cell 0, h.cell 1, h.cell 2, k.cell 0, k.cell 1, k.cell 2⟩
theorem ag_parts {ls : List Lay} {x wt : Mat} {n : Nat} (hn : ls.length = n) (h : agFault ls x wt = 0) : netGoFault ls x = 0 ∧ lossFault (netTo ls x n) wt = 0 ∧ bF ls (netOuts ls x n) (lossBack (netTo ls x n) wt) n n = 0 := by
 subst hn
 unfold agFault at h
 by_cases h1 : netGoFault ls x = 0
 ·rw [if_neg (fun h => h h1)] at h
  by_cases h2 : lossFault (netTo ls x ls.length) wt = 0
  ·rw [if_neg (fun h => h h2)] at h
   exact ⟨h1, h2, h⟩
  ·rw [if_pos h2] at h
   exact absurd h h2
 ·rw [if_pos h1] at h
  exact absurd h h1
theorem most_42 : mostIs 4 2 = 4 := by decide
theorem pick_q (c : Int) : ∃ q : Nat, (1 : Int) + pickOf c 12 = (q : Int) ∧ 1 ≤ q ∧ q ≤ 12 := by
 have h1 : 0 ≤ pickOf c 12 := Int.emod_nonneg _ (by omega)
 have h2 : pickOf c 12 < 12 := Int.emod_lt_of_pos _ (by omega)
 exact ⟨(1 + pickOf c 12).toNat, by omega, by omega, by omega⟩
theorem walk (ls : List Lay) (vl : Value) (x : Mat) (vx : Value) (wt : Mat) (vw : Value) (A B : Int) (w : World) (hl : LaysAt w vl ls) (hx : MatAt w vx x) (hw : MatAt w vw wt) (hA : (Lit.int .i64 A).wf = true) (hB : (Lit.int .i64 B).wf = true) :
  Calls Try.prog 3 #[vl, vx, vw, .int .i64 A, .int .i64 B] w fun e w' => e = .returned (.bool true) ∧ Below w.heap.size w w' := by
 obtain ⟨a, n, k, b, o, rfl, h⟩ := hl
 obtain ⟨ax, nx, kx, bx, ox, rfl, x1⟩ := hx
 obtain ⟨aw, nw, kw, bw, ow, rfl, x2⟩ := hw
 have hA' := bounds_i64 hA
 have hB' := bounds_i64 hB
 clear hA hB
 have hn := h.len
 obtain ⟨p, hp, hp1, hp2⟩ := pick_q A
 obtain ⟨q, hq, hq1, hq2⟩ := pick_q B
 obtain ⟨PA, hPA⟩ : ∃ PA, pickOf A 12 = PA := ⟨_, rfl⟩
 obtain ⟨PB, hPB⟩ : ∃ PB, pickOf B 12 = PB := ⟨_, rfl⟩
 rw [hPA] at hp
 rw [hPB] at hq
 have HPA := Lib.hid hPA
 have HPB := Lib.hid hPB
 have HWP : Hid (IntKind.i64.wrap (p : Int) = (p : Int)) := Lib.hid (IntWalk.i64_in _ (by omega))
 have HWQ : Hid (IntKind.i64.wrap (q : Int) = (q : Int)) := Lib.hid (IntWalk.i64_in _ (by omega))
 clear hPA hPB
 obtain ⟨f, hf⟩ : ∃ f, agFault ls x wt = f := ⟨_, rfl⟩
 have HAG := Lib.hid hf
 by_cases hf0 : f = 0
 ·subst hf0
  obtain ⟨hgo, hlo, hbf⟩ := ag_parts hn hf
  obtain ⟨h12, hxf, hgt⟩ := go_parts hgo
  rw [hn] at h12
  obtain ⟨M, hM⟩ : ∃ M, netTo ls x n = M := ⟨_, rfl⟩
  obtain ⟨g, hg⟩ : ∃ g, lossBack M wt = g := ⟨_, rfl⟩
  have HMX : Hid (mx (netOuts ls x n) n = M) := Lib.hid (by rw [outs_mx (Nat.le_refl n), hM])
  have HNB : Hid (netBackFault ls (netOuts ls x n) g = 0) := Lib.hid (by
   rw [← hg, ← hM, nb_is hn h12 (lossFault_ok hlo).1]; exact hbf)
  have HGT : Hid (g.cells.length * 8 ≤ 140737488355328) := Lib.hid (by rw [← hg, ← hM]; have := (fault_bd (lossBack_fault (b := wt) (lossFault_ok hlo).1)).2.2; omega)
  rw [hM] at hlo
  have HLO := Lib.hid hlo
  have HGO := Lib.hid hgo
  have HM := Lib.hid hM
  have HGB := Lib.hid hg
  have HE0 : Hid (errV 0 = .nilIface) := Lib.hid (errV_nil rfl)
  obtain ⟨_, _, m1, m2⟩ := most_is n (by omega) p (by omega) hp1
  obtain ⟨_, _, m3, _⟩ := most_is n (by omega) q (by omega) hq1
  obtain ⟨K1, hK1⟩ : ∃ K1, mostIs n p = K1 := ⟨_, rfl⟩
  obtain ⟨K2, hK2⟩ : ∃ K2, mostIs n q = K2 := ⟨_, rfl⟩
  rw [hK1] at m1 m2
  rw [hK2] at m3
  have HK1 := Lib.hid hK1
  have HK2 := Lib.hid hK2
  clear hf hgo hlo hbf hM hg hxf hgt hK1 hK2
  go_enter Try.func3, Try.ntmps3
  go_wp2_with fail
  refine (againMost_any 4 2 _).mono ?_
  rintro e w1 ⟨rfl, hMo⟩
  obtain rfl := hMo.2 (by decide) (by decide) (by decide) (by decide)
  rw [show mostIs (4 : Int).toNat (2 : Int).toNat = 4 from most_42]
  clear hMo
  obtain ⟨w1, hw1, B6, B7, hb1, hz1⟩ : ∃ w1, (w.alloc (.cells #[.int .i64 x.rows, .int .i64 x.cols, .slice ax nx kx] 25)).alloc (.cells #[.int .i64 wt.rows, .int .i64 wt.cols, .slice aw nw kw] 25) = w1 ∧ Box w1 w.heap.size [.int .i64 x.rows, .int .i64 x.cols, .slice ax nx kx] 25 ∧ Box w1 (w.heap.size + 1) [.int .i64 wt.rows, .int .i64 wt.cols, .slice aw nw kw] 25 ∧ Below w.heap.size w w1 ∧ w1.heap.size = w.heap.size + 1 + 1 :=
   ⟨_, rfl, Box.x0, Box.x0, Below.x0, by simp⟩
  rw [hw1]
  replace h := h.keep hb1
  replace x1 := x1.keep hb1
  replace x2 := x2.keep hb1
  have B6 := B6
  have B6c := B6.cell
  have B6f := B6.thawed
  have B6z := B6.lt
  have B6k := lt_add B6z
  have B7 := B7
  have B7c := B7.cell
  have B7f := B7.thawed
  have B7z := B7.lt
  have B7k := lt_add B7z
  go_wp2_with fail
  go_region_held3 (fun w' => w'.cell? ⟨w.heap.size, 0, none⟩ = some (.int .i64 x.rows) ∧ w'.cell? ⟨w.heap.size, 1, none⟩ = some (.int .i64 x.cols) ∧ w'.cell? ⟨w.heap.size, 2, none⟩ = some (.slice ax nx kx) ∧ w'.cell? ⟨w.heap.size + 1, 0, none⟩ = some (.int .i64 wt.rows) ∧ w'.cell? ⟨w.heap.size + 1, 1, none⟩ = some (.int .i64 wt.cols) ∧ w'.cell? ⟨w.heap.size + 1, 2, none⟩ = some (.slice aw nw kw)) (exact boxes33 (t := 25) (u := 25) (by first | exact B6.k1 hb9 | exact B6.k) (by first | exact B7.k1 hb9 | exact B7.k)) ((first | (go_at_call 7; go_must (refine (pick_any A 12 _ hA'.1 hA'.2 (by decide) (by decide)).mono ?_); go_must (rw [HPA.out]); go_must (rintro e w8 ⟨rfl, rfl⟩)) | (go_at_call 6; go_must (rw [HWP.out]); go_must (refine (againBack_any ls x wt anyB _ _ _ _ _ _ _ _ (show RowAt Form.lay _ anyB a n k b o ls from h.keep Below.x0) (MatAt.mk (show IntsAt _ ax nx kx bx ox x.cells from x1.k)) (MatAt.mk (show IntsAt _ aw nw kw bw ow wt.cells from x2.k)) p hp1 hp2).mono ?_); go_must (rw [HAG.out]); go_must (rintro e w9 ⟨v9, o9, m9, rfl, hb9, hu9, hu9'⟩))))
  obtain ⟨w2, rfl⟩ : ∃ w2, w2 = w9 := ⟨_, rfl⟩
  have hkw2 : Below w1.heap.size w1 w2 := (Below.x1 hb9)
  replace h := h.keep hkw2
  replace x1 := x1.keep hkw2
  replace x2 := x2.keep hkw2
  have hkw2 : Below w1.heap.size w1 w2 := (Below.x1 hkw2)
  replace B6 := B6.keep hkw2
  replace B6c := B6.cell
  replace B6f := B6.thawed
  replace B6z := B6.lt
  replace B6k := lt_add B6z
  replace B7 := B7.keep hkw2
  replace B7c := B7.cell
  replace B7f := B7.thawed
  replace B7z := B7.lt
  replace B7k := lt_add B7z
  clear hb9
  obtain ⟨rfl, rfl, a3, k3, b3, rfl, r3⟩ := hu9 trivial
  clear hu9 hu9'
  rw [HM.out, HGB.out] at r3
  rw [HM.out, HE0.out, HK1.out]
  go_wp2_with fail
  go_region_held3 (fun w' => w'.cell? ⟨w.heap.size, 0, none⟩ = some (.int .i64 x.rows) ∧ w'.cell? ⟨w.heap.size, 1, none⟩ = some (.int .i64 x.cols) ∧ w'.cell? ⟨w.heap.size, 2, none⟩ = some (.slice ax nx kx) ∧ w'.cell? ⟨w.heap.size + 1, 0, none⟩ = some (.int .i64 wt.rows) ∧ w'.cell? ⟨w.heap.size + 1, 1, none⟩ = some (.int .i64 wt.cols) ∧ w'.cell? ⟨w.heap.size + 1, 2, none⟩ = some (.slice aw nw kw)) (exact boxes33 (t := 25) (u := 25) (by first | exact B6.k1 hb9 | exact B6.k) (by first | exact B7.k1 hb9 | exact B7.k)) ((first | (go_at_call 7; go_must (refine (pick_any B 12 _ hB'.1 hB'.2 (by decide) (by decide)).mono ?_); go_must (rw [HPB.out]); go_must (rintro e w8 ⟨rfl, rfl⟩)) | (go_at_call 6; go_must (rw [HWQ.out]); go_must (refine (againBack_any ls x wt anyB _ _ _ _ _ _ _ _ (show RowAt Form.lay _ anyB a n k b o ls from h.keep Below.x0) (MatAt.mk (show IntsAt _ ax nx kx bx ox x.cells from x1.k)) (MatAt.mk (show IntsAt _ aw nw kw bw ow wt.cells from x2.k)) q hq1 hq2).mono ?_); go_must (rw [HAG.out]); go_must (rintro e w9 ⟨v9, o9, m9, rfl, hb9, hu9, hu9'⟩))))
  obtain ⟨w3, rfl⟩ : ∃ w3, w3 = w9 := ⟨_, rfl⟩
  have hkw3 : Below w2.heap.size w2 w3 := (Below.x1 hb9)
  replace h := h.keep hkw3
  replace x1 := x1.keep hkw3
  replace x2 := x2.keep hkw3
  have hkw3 : Below w2.heap.size w2 w3 := (Below.x1 hkw3)
  replace B6 := B6.keep hkw3
  replace B6c := B6.cell
  replace B6f := B6.thawed
  replace B6z := B6.lt
  replace B6k := lt_add B6z
  replace B7 := B7.keep hkw3
  replace B7c := B7.cell
  replace B7f := B7.thawed
  replace B7z := B7.lt
  replace B7k := lt_add B7z
  clear hb9
  obtain ⟨rfl, rfl, a4, k4, b4, rfl, r4⟩ := hu9 trivial
  clear hu9 hu9'
  rw [HM.out, HGB.out] at r4
  rw [HM.out, HE0.out, HK2.out]
  replace r3 := r3.keep hkw3
  have hbw3 : Below w.heap.size w w3 := (by repeat (first | (with_reducible first | exact Below.refl _ _ | exact hb1 | refine Below.al ?_ _ | refine Below.drN ?_ _ | refine Below.drew ?_ | refine Below.sx ?_ _ | refine Below.go ?_ hkw3 | refine Below.go ?_ hkw2) | exact Below.refl _ _ | exact hb1))
  go_wp2_with fail
  refine (grads_same (bDs ls (netOuts ls x n) g n) _ _ _ _ _ _ _ _ _ _ _ _ _ r3 r4).mono ?_
  rintro e w4 ⟨rfl, hb4⟩
  have hkw4 : Below w3.heap.size w3 w4 := (Below.x1 hb4)
  replace B6 := B6.keep hkw4
  replace B6c := B6.cell
  replace B6f := B6.thawed
  replace B6z := B6.lt
  replace B6k := lt_add B6z
  replace B7 := B7.keep hkw4
  replace B7c := B7.cell
  replace B7f := B7.thawed
  replace B7z := B7.lt
  replace B7k := lt_add B7z
  replace h := h.keep hkw4
  replace x1 := x1.keep hkw4
  replace x2 := x2.keep hkw4
  replace r3 := r3.keep hkw4
  have hsw4 := hkw4.size
  clear r4
  have t1 : ¬ ((n : Int) + 1 < (K1 : Int)) := by omega
  have t2 : ¬ ((n : Int) + 1 < (K2 : Int)) := by omega
  have t3 : ¬ ((K1 : Int) < 1) := by omega
  go_wp2_with fail
  refine (netGo_any ls anyB _ _ _ _ _ x _ _ h (MatAt.mk x1)).mono ?_
  rw [HGO.out, HE0.out]
  rintro e w5 ⟨v2, rfl, hb5, hv2, _⟩
  have hkw5 : Below w4.heap.size w4 w5 := (Below.x1 hb5)
  replace B6 := B6.keep hkw5
  replace B6c := B6.cell
  replace B6f := B6.thawed
  replace B6z := B6.lt
  replace B6k := lt_add B6z
  replace B7 := B7.keep hkw5
  replace B7c := B7.cell
  replace B7f := B7.thawed
  replace B7z := B7.lt
  replace B7k := lt_add B7z
  replace h := h.keep hkw5
  replace x2 := x2.keep hkw5
  replace r3 := r3.keep hkw5
  have hsw5 := hkw5.size
  obtain ⟨a6, k6, b6, rfl, r6⟩ := hv2 rfl
  obtain ⟨a7, n7, k7, b7, o7, CM, xg⟩ := mats_cells (i := n) r6 (by omega)
  rw [HMX.out] at CM xg
  rw [Nat.zero_add] at CM
  obtain rfl := r6.ptr (Nat.succ_pos _)
  have hxl := xg.lt
  have h6z := r6.lt (Nat.succ_pos _)
  have pI : (n : Int) < (n : Int) + 1 := by omega
  clear hv2 t1 t2 t3 m1 m2 m3
  go_wp2_with fail
  go_cut [22, 12] (fun s t wx => ∃ p a5 n5 k5 b5 o5, s = .pointer (some ⟨p, 0, none⟩) ∧ t = .nilIface ∧ Box wx p [.int .i64 g.rows, .int .i64 g.cols, .slice a5 n5 k5] 25 ∧ IntsAt wx a5 n5 k5 b5 o5 g.cells ∧ Below w5.heap.size w5 wx)
  case first =>
   go_region_held3 (fun w' => w'.cell? ⟨b6, n * 3, none⟩ = some (.int .i64 M.rows) ∧ w'.cell? ⟨b6, n * 3 + 1, none⟩ = some (.int .i64 M.cols) ∧ w'.cell? ⟨b6, n * 3 + 2, none⟩ = some (.slice a7 n7 k7) ∧ w'.cell? ⟨w.heap.size + 1, 0, none⟩ = some (.int .i64 wt.rows) ∧ w'.cell? ⟨w.heap.size + 1, 1, none⟩ = some (.int .i64 wt.cols) ∧ w'.cell? ⟨w.heap.size + 1, 2, none⟩ = some (.slice aw nw kw)) (exact cells3b (t := 25) (by repeat (first | (with_reducible first | exact CM | refine Cells3.alloc ?_ _ | refine Cells3.drewN ?_ _ | refine Cells3.drew ?_ | (refine Cells3.far ?_ ?_ _; rotate_left 1; (first | (dsimp only; omega) | omega | (simp; omega) | simp)) | refine Cells3.keep ?_ hb9) | exact CM)) (by first | exact B7.k1 hb9 | exact B7.k)) ((go_at_call 10; go_must (refine (lossBack_ok M wt _ _ _ (MatAt.mk (show IntsAt _ a7 n7 k7 b7 o7 M.cells from xg.k)) (MatAt.mk (show IntsAt _ aw nw kw bw ow wt.cells from x2.k)) HLO.out).mono ?_); go_must (rw [HGB.out]); go_must (rintro e w9 ⟨v5, rfl, ⟨a5, n5, k5, b5, o5, rfl, hn5, x5⟩, hb9⟩); (try (refine (fun (P1 : Box w9 (w5.heap.size) [.int .i64 0, .int .i64 0, .slice none 0 0] 25) => ?_) ?_; rotate_left 1; (with_reducible refine Box.keep ?_ hb9); (focus ((repeat (first | (with_reducible refine (Box.new' _ (w5.heap.size) _ _ ?_); (simp; done)) | (with_reducible refine Box.alloc ?_ _) | (with_reducible refine Box.drew ?_) | (with_reducible refine Box.drewN ?_ _))); done)); have P1c := P1.cell; have P1f := P1.thawed; have P1z := P1.lt))))
   all_goals (
    go_wp2_with fail
    go_meet
    have h5l := x5.lt
    simp at hn5
    exact ⟨_, a5, n5, k5, b5, o5, rfl, rfl, (by repeat (first | (with_reducible first | (refine (Box.new' _ _ _ _ ?_); (simp; done)) | refine Box.alloc ?_ _ | refine Box.drewN ?_ _ | refine Box.drew ?_ | refine Box.set6z ?_ _ _ _ _ _ _ | refine Box.set3z ?_ _ _ _ | refine Box.fx ?_ _ | refine Box.keep ?_ hb9))), (by repeat (first | (with_reducible first | exact x5 | refine IntsAt.alloc ?_ _ | refine IntsAt.drewN ?_ _ | refine IntsAt.drew ?_ | (refine IntsAt.set ?_ ?_ _; rotate_left 1; (intro h0; have hq0 := hn5 h0; have hq1 := h5l h0; first | (dsimp only; omega) | omega | (simp; omega) | simp))) | exact x5)), (Below.x1 hb9)⟩)
  case rest =>
   obtain ⟨p21, a5, n5, k5, b5, o5, rfl, rfl, B21, x5, hbc⟩ := hcut
   have hbwc : Below w.heap.size w wc := (by repeat (first | (with_reducible first | exact Below.refl _ _ | exact hbw3 | refine Below.al ?_ _ | refine Below.drN ?_ _ | refine Below.drew ?_ | refine Below.sx ?_ _ | refine Below.go ?_ hbc | refine Below.go ?_ hb5 | refine Below.go ?_ hb4) | exact Below.refl _ _ | exact hbw3))
   replace h := h.keep hbc
   replace r6 := r6.keep hbc
   replace r3 := r3.keep hbc
   have B21 := B21
   have B21c := B21.cell
   have B21f := B21.thawed
   have B21z := B21.lt
   have B21k := lt_add B21z
   clear x2 xg CM B6 B6c B6f B6z B6k B7 B7c B7f B7z B7k
   go_wp2_with fail
   refine (netBack_any ls (netOuts ls x n) g anyB _ _ _ n (n + 1) _ _ _ _ _ _ _ _ h r6 (MatAt.mk x5) HGT.out).mono ?_
   rintro e w21 ⟨u3, d3, rfl, hb21, hu3, _⟩
   rw [HNB.out] at hu3 ⊢
   rw [HE0.out]
   obtain ⟨⟨a12, n12, k12, b12, o12, rfl, _, x12⟩, a8, k8, b8, rfl, r8⟩ := hu3 rfl
   clear x12
   clear hu3
   replace r3 := r3.keep hb21
   have hbw : Below w.heap.size w w21 := (Below.y1 hb21 hbwc)
   clear h r6 x5 B21 B21c B21f B21z B21k
   go_wp2_with fail
   refine (grads_same (bDs ls (netOuts ls x n) g n) _ _ _ _ _ _ _ _ _ _ _ _ _ (r8.alloc _) (r3.alloc _)).mono ?_
   rintro e w31 ⟨rfl, hb31⟩
   have hbe : Below w.heap.size w w31 := (Below.y1 hb31 hbw)
   clear r3 r8
   go_wp2
   go_ret
   exact ⟨rfl, hbe⟩
 ·have HEV : Hid (errV f = .iface 56 (.int .i64 f)) := Lib.hid (errV_err hf0)
  have HF := Lib.hid hf0
  clear hf hf0
  go_enter Try.func3, Try.ntmps3
  go_wp2_with fail
  refine (againMost_any 4 2 _).mono ?_
  rintro e w1 ⟨rfl, hMo⟩
  obtain rfl := hMo.2 (by decide) (by decide) (by decide) (by decide)
  rw [show mostIs (4 : Int).toNat (2 : Int).toNat = 4 from most_42]
  clear hMo
  obtain ⟨w1, hw1, B6, B7, hb1, hz1⟩ : ∃ w1, (w.alloc (.cells #[.int .i64 x.rows, .int .i64 x.cols, .slice ax nx kx] 25)).alloc (.cells #[.int .i64 wt.rows, .int .i64 wt.cols, .slice aw nw kw] 25) = w1 ∧ Box w1 w.heap.size [.int .i64 x.rows, .int .i64 x.cols, .slice ax nx kx] 25 ∧ Box w1 (w.heap.size + 1) [.int .i64 wt.rows, .int .i64 wt.cols, .slice aw nw kw] 25 ∧ Below w.heap.size w w1 ∧ w1.heap.size = w.heap.size + 1 + 1 :=
   ⟨_, rfl, Box.x0, Box.x0, Below.x0, by simp⟩
  rw [hw1]
  replace h := h.keep hb1
  replace x1 := x1.keep hb1
  replace x2 := x2.keep hb1
  have B6 := B6
  have B6c := B6.cell
  have B6f := B6.thawed
  have B6z := B6.lt
  have B6k := lt_add B6z
  have B7 := B7
  have B7c := B7.cell
  have B7f := B7.thawed
  have B7z := B7.lt
  have B7k := lt_add B7z
  go_wp2_with fail
  go_region_held3 (fun w' => w'.cell? ⟨w.heap.size, 0, none⟩ = some (.int .i64 x.rows) ∧ w'.cell? ⟨w.heap.size, 1, none⟩ = some (.int .i64 x.cols) ∧ w'.cell? ⟨w.heap.size, 2, none⟩ = some (.slice ax nx kx) ∧ w'.cell? ⟨w.heap.size + 1, 0, none⟩ = some (.int .i64 wt.rows) ∧ w'.cell? ⟨w.heap.size + 1, 1, none⟩ = some (.int .i64 wt.cols) ∧ w'.cell? ⟨w.heap.size + 1, 2, none⟩ = some (.slice aw nw kw)) (exact boxes33 (t := 25) (u := 25) (by first | exact B6.k1 hb9 | exact B6.k) (by first | exact B7.k1 hb9 | exact B7.k)) ((first | (go_at_call 7; go_must (refine (pick_any A 12 _ hA'.1 hA'.2 (by decide) (by decide)).mono ?_); go_must (rw [HPA.out]); go_must (rintro e w8 ⟨rfl, rfl⟩)) | (go_at_call 6; go_must (rw [HWP.out]); go_must (refine (againBack_any ls x wt anyB _ _ _ _ _ _ _ _ (show RowAt Form.lay _ anyB a n k b o ls from h.keep Below.x0) (MatAt.mk (show IntsAt _ ax nx kx bx ox x.cells from x1.k)) (MatAt.mk (show IntsAt _ aw nw kw bw ow wt.cells from x2.k)) p hp1 hp2).mono ?_); go_must (rw [HAG.out]); go_must (rintro e w9 ⟨v9, o9, m9, rfl, hb9, hu9, hu9'⟩))))
  obtain ⟨w2, rfl⟩ : ∃ w2, w2 = w9 := ⟨_, rfl⟩
  have hkw2 : Below w1.heap.size w1 w2 := (Below.x1 hb9)
  replace h := h.keep hkw2
  replace x1 := x1.keep hkw2
  replace x2 := x2.keep hkw2
  have hkw2 : Below w1.heap.size w1 w2 := (Below.x1 hkw2)
  replace B6 := B6.keep hkw2
  replace B6c := B6.cell
  replace B6f := B6.thawed
  replace B6z := B6.lt
  replace B6k := lt_add B6z
  replace B7 := B7.keep hkw2
  replace B7c := B7.cell
  replace B7f := B7.thawed
  replace B7z := B7.lt
  replace B7k := lt_add B7z
  clear hb9
  obtain ⟨rfl, rfl, rfl⟩ := hu9' HF.out
  clear hu9 hu9'
  rw [HEV.out]
  go_wp2_with fail
  go_region_held3 (fun w' => w'.cell? ⟨w.heap.size, 0, none⟩ = some (.int .i64 x.rows) ∧ w'.cell? ⟨w.heap.size, 1, none⟩ = some (.int .i64 x.cols) ∧ w'.cell? ⟨w.heap.size, 2, none⟩ = some (.slice ax nx kx) ∧ w'.cell? ⟨w.heap.size + 1, 0, none⟩ = some (.int .i64 wt.rows) ∧ w'.cell? ⟨w.heap.size + 1, 1, none⟩ = some (.int .i64 wt.cols) ∧ w'.cell? ⟨w.heap.size + 1, 2, none⟩ = some (.slice aw nw kw)) (exact boxes33 (t := 25) (u := 25) (by first | exact B6.k1 hb9 | exact B6.k) (by first | exact B7.k1 hb9 | exact B7.k)) ((first | (go_at_call 7; go_must (refine (pick_any B 12 _ hB'.1 hB'.2 (by decide) (by decide)).mono ?_); go_must (rw [HPB.out]); go_must (rintro e w8 ⟨rfl, rfl⟩)) | (go_at_call 6; go_must (rw [HWQ.out]); go_must (refine (againBack_any ls x wt anyB _ _ _ _ _ _ _ _ (show RowAt Form.lay _ anyB a n k b o ls from h.keep Below.x0) (MatAt.mk (show IntsAt _ ax nx kx bx ox x.cells from x1.k)) (MatAt.mk (show IntsAt _ aw nw kw bw ow wt.cells from x2.k)) q hq1 hq2).mono ?_); go_must (rw [HAG.out]); go_must (rintro e w9 ⟨v9, o9, m9, rfl, hb9, hu9, hu9'⟩))))
  obtain ⟨w3, rfl⟩ : ∃ w3, w3 = w9 := ⟨_, rfl⟩
  have hkw3 : Below w2.heap.size w2 w3 := (Below.x1 hb9)
  replace h := h.keep hkw3
  replace x1 := x1.keep hkw3
  replace x2 := x2.keep hkw3
  have hkw3 : Below w2.heap.size w2 w3 := (Below.x1 hkw3)
  replace B6 := B6.keep hkw3
  replace B6c := B6.cell
  replace B6f := B6.thawed
  replace B6z := B6.lt
  replace B6k := lt_add B6z
  replace B7 := B7.keep hkw3
  replace B7c := B7.cell
  replace B7f := B7.thawed
  replace B7z := B7.lt
  replace B7k := lt_add B7z
  clear hb9
  obtain ⟨rfl, rfl, rfl⟩ := hu9' HF.out
  clear hu9 hu9'
  rw [HEV.out]
  have hbw3 : Below w.heap.size w w3 := (by repeat (first | (with_reducible first | exact Below.refl _ _ | exact hb1 | refine Below.al ?_ _ | refine Below.drN ?_ _ | refine Below.drew ?_ | refine Below.sx ?_ _ | refine Below.go ?_ hkw3 | refine Below.go ?_ hkw2) | exact Below.refl _ _ | exact hb1))
  go_wp2
  go_ret
  exact ⟨rfl, hbw3⟩
theorem own : ownKnob Try.prog.godebug = none := by kernel_rfl
theorem laidOut : laidOutB Try.prog = true := by kernel_rfl
set_option maxRecDepth 100000 in
theorem lifted (os : Os) (started : os.Started) (H : Type) (enc : TypeId × Value → H) :
  ReturnsInHanded {} Try.checked os 3 .any (Rows.againSameSpec.pre6 enc Try.prog Try.f3 Rows.againSameRow.domain false) (Rows.againSameSpec.post enc Try.prog Try.f3 false true false false) := by
 refine returnsInHanded_of_change (C := Try.checked) own started (by kernel_rfl) Try.func3
  (ChangeSpec.witness6 (enc := enc) (C := Try.checked) false ⟨#[], #[.slice none 0 0, .agg #[.int .i64 0, .int .i64 0, .slice none 0 0], .agg #[.int .i64 0, .int .i64 0, .slice none 0 0], .int .i64 0, .int .i64 0], []⟩ 8 (by kernel_rfl) (by kernel_rfl) (by kernel_rfl) (by kernel_rfl)) ?_
 intro W base args ds gs before hval0 hW hcnd hsz
 have hval : ∀ (j : Nat) t v, Try.f3.params[j]? = some t → args[j]? = some v → Value.okWide Try.prog W .any base t v := hval0
 have hW' := hW
 obtain ⟨p, q, hA0, hV, rfl, hfz, hnd⟩ := hW
 have hA : DataW.TrodAll enc Try.prog W 0 (fun _ => true) true Try.f3.params.toList args.toList ds p := hA0
 rw [Try.params3] at hA hval
 obtain ⟨v0, vs0, d0, ds0, p0, q0, hargs, rfl, rfl, h0, r0⟩ := trodAll_cons hA
 obtain ⟨v1, vs1, d1, ds1, p1, q1, rfl, rfl, rfl, h1, r1⟩ := trodAll_cons r0
 obtain ⟨v2, vs2, d2, ds2, p2, q2, rfl, rfl, rfl, h2, r2⟩ := trodAll_cons r1
 obtain ⟨v3, vs3, d3, ds3, p3, q3, rfl, rfl, rfl, h3, r3⟩ := trodAll_cons r2
 obtain ⟨v4, vs4, d4, ds4, p4, q4, rfl, rfl, rfl, h4, r4⟩ := trodAll_cons r3
 obtain ⟨rfl, rfl, rfl⟩ := trodAll_nil r4
 obtain rfl : args = #[v0, v1, v2, v3, v4] := by cases args; simp_all
 obtain ⟨rfl, rfl⟩ := trodVars_none hV
 have k0 := h0
 have lt0 : ∀ x ∈ p0, x.block < W.heap.size := by obtain ⟨m, hm⟩ := k0; exact DataW.trod_lt m _ _ _ hm
 have k1 := h1
 have lt1 : ∀ x ∈ p1, x.block < W.heap.size := by obtain ⟨m, hm⟩ := k1; exact DataW.trod_lt m _ _ _ hm
 have k2 := h2
 have lt2 : ∀ x ∈ p2, x.block < W.heap.size := by obtain ⟨m, hm⟩ := k2; exact DataW.trod_lt m _ _ _ hm
 have k3 := h3
 have lt3 : ∀ x ∈ p3, x.block < W.heap.size := by obtain ⟨m, hm⟩ := k3; exact DataW.trod_lt m _ _ _ hm
 have k4 := h4
 have lt4 : ∀ x ∈ p4, x.block < W.heap.size := by obtain ⟨m, hm⟩ := k4; exact DataW.trod_lt m _ _ _ hm
 obtain ⟨a0, w0⟩ := open_lLayer (hval 0 22 v0 rfl rfl) h0
 obtain ⟨a1, w1⟩ := open_mat (hval 1 25 v1 rfl rfl) h1
 obtain ⟨a2, w2⟩ := open_mat (hval 2 25 v2 rfl rfl) h2
 obtain ⟨a3, rfl, rfl, rfl, w3⟩ := open_int Try.underlying3 (hval 3 3 v3 rfl rfl) h3
 obtain ⟨a4, rfl, rfl, rfl, w4⟩ := open_int Try.underlying3 (hval 4 3 v4 rfl rfl) h4
 clear hA0 hval0
 refine (walk a0 v0 a1 v1 a2 v2 a3 a4 W w0 w1 w2 w3 w4).mono fun e W' ⟨he, bel⟩ => ?_
 subst he
 exact ⟨_, rfl, _, _, _, [], _, [], hW', trodAll_mk1 (shut_bool Try.underlying4 _), (trodAll_cons_mk (Below.trod laidOut (by kernel_rfl) (of_decide_eq_true (by kernel_rfl)) k0 bel lt0) (trodAll_cons_mk (Below.trod laidOut (by kernel_rfl) (of_decide_eq_true (by kernel_rfl)) k1 bel lt1) (trodAll_cons_mk (Below.trod laidOut (by kernel_rfl) (of_decide_eq_true (by kernel_rfl)) k2 bel lt2) (trodAll_cons_mk (Below.trod laidOut (by kernel_rfl) (of_decide_eq_true (by kernel_rfl)) k3 bel lt3) (trodAll_cons_mk (Below.trod laidOut (by kernel_rfl) (of_decide_eq_true (by kernel_rfl)) k4 bel lt4) trodAll_mk0))))), rfl, bel.frame _, fun h => by cases h⟩
theorem proved : Rows.AgainSameSaid :=
 OpenClaim.holds_of_wide 3 Try.f3 rfl rfl rfl rfl rfl rfl rfl ⟨rfl, rfl, rfl, rfl, rfl⟩ rfl rfl rfl rfl rfl (by kernel_rfl) Try.func3 (by kernel_rfl)
  (of_decide_eq_true (by kernel_rfl)) (by unfold Func.isWrapper; first | (rw [if_pos (by decide +kernel)]; kernel_rfl) | (rw [if_neg (by decide +kernel)]; exact ⟨rfl, rfl⟩))
  (fun os started H enc _ => lifted os started H enc)
#print axioms proved
end Go.Proofs.Ytgknjikjjklaiaa.lawAgainSame
