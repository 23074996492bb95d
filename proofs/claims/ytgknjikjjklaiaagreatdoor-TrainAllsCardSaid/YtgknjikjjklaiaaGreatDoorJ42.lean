/- Texts joined: RBatch2, RNet1. -/
import Derived.Test.YtgknjikjjklaiaaGreatDoorJ11
import Derived.Test.YtgknjikjjklaiaaGreatDoorJ41
import Derived.Test.YtgknjikjjklaiaaGreatDoorJ15
import Derived.Deep.DeepCutAuto
import Derived.Deep.RegionHeld3
import Derived.Test.YtgknjikjjklaiaaGreatDoorJ22
import Derived.Test.YtgknjikjjklaiaaGreatDoorJ19
import Derived.Test.YtgknjikjjklaiaaGreatDoorJ21
section
set_option linter.unusedVariables false
set_option linter.unusedSimpArgs false
set_option linter.unusedSectionVars false
namespace Gal
open Go Go.RowKit
section
variable {w : World} {b c q : Nat} {t u : TypeId} {v0 v1 v2 v3 v4 v5 : Value} {xs : List Int} {x : Int}
theorem cellsS0 (h : Box w b [v0, v1, v2, v3, v4, v5] t) (k : Box w c (xs.map (Value.int .i64)) u) (hq : q < xs.length) (hx : ix xs q = x) : w.cell? ⟨b, 0, none⟩ = some v0 ∧ w.cell? ⟨b, 1, none⟩ = some v1 ∧ w.cell? ⟨b, 2, none⟩ = some v2 ∧ w.cell? ⟨c, q, none⟩ = some (.int .i64 x) :=
 ⟨h.cell 0, h.cell 1, h.cell 2, by rw [← hx]; exact k.icell hq⟩
theorem cellsS3 (h : Box w b [v0, v1, v2, v3, v4, v5] t) (k : Box w c (xs.map (Value.int .i64)) u) (hq : q < xs.length) (hx : ix xs q = x) : w.cell? ⟨b, 3, none⟩ = some v3 ∧ w.cell? ⟨b, 4, none⟩ = some v4 ∧ w.cell? ⟨b, 5, none⟩ = some v5 ∧ w.cell? ⟨c, q, none⟩ = some (.int .i64 x) :=
 ⟨h.cell 3, h.cell 4, h.cell 5, by rw [← hx]; exact k.icell hq⟩
end
end Gal
namespace Go.Proofs.YtgknjikjjklaiaaGreatDoor
open Go.RowKit Gal
set_option maxRecDepth 100000
set_option maxHeartbeats 4000000
theorem refSplit_any (d : Bat) (p : Int) (v : Value) (w : World) (h : BatAt w v d) :
  Calls Tryz.prog 79 #[v, .int .i64 p] w fun e w' => ∃ u, e = .returned (.tuple #[u, .int .i64 (splitFault d p)]) ∧ Below w.heap.size w w' ∧
   (splitFault d p = 0 → ∃ a k b, u = .slice a p.toNat k ∧ RowAt Form.bat w' (newB w.heap.size) a p.toNat k b 0 (partsTo d (sizesOf d.I.rows.toNat p.toNat) p.toNat)) ∧ (splitFault d p ≠ 0 → u = .slice none 0 0) := by
 obtain ⟨i0, hi, hz0, hz1, hz2⟩ := info_parts info_bat
 obtain ⟨a, n, k, b, o, a', n', k', b', o', rfl, x0, x1⟩ := h
 by_cases hd : d.fault = 0
 ·have HD := Lib.hid hd
  have HF : Hid (splitFault d p = sizesFault d.I.rows p) := Lib.hid (by unfold splitFault; rw [if_neg (by simp [hd])])
  rw [HF.out]
  by_cases hs : sizesFault d.I.rows p = 0
  ·obtain ⟨f1, f2, f3, f4⟩ := Bat.fault_ok hd
   obtain ⟨g1, g2, g3, g4, g5⟩ := sizesFault_ok hs
   obtain ⟨R, hR⟩ := Int.eq_ofNat_of_zero_le (show 0 ≤ d.I.rows by omega)
   obtain ⟨P, rfl⟩ := Int.eq_ofNat_of_zero_le (show 0 ≤ p by omega)
   rw [hR] at g1 g2 g5
   have hRn : d.I.rows.toNat = R := by rw [hR]; simp
   rw [hRn]
   simp only [Int.toNat_natCast]
   obtain ⟨s, hsz⟩ : ∃ s, sizesOf R P = s := ⟨_, rfl⟩
   have hsl : s.length = P := by rw [← hsz]; exact sizesOf_length P R
   have hss : s.sum = R := by rw [← hsz]; exact sizesOf_sum P R (by omega)
   have PI : Hid (∀ k, rowsFault d.I (atOf s k) (atOf s (k + 1)) = 0) := Lib.hid fun k => part_fault f1 (by rw [hss, hR])
   have PW : Hid (∀ k, rowsFault d.W (atOf s k) (atOf s (k + 1)) = 0) := Lib.hid fun k => part_fault f2 (by rw [hss, ← f3, hR])
   have HLE : Hid (∀ k, atOf s k ≤ 24) := Lib.hid fun k => by have := atOf_le s k; omega
   rw [hsz]
   have HS0 := Lib.hid hs
   have HSL := Lib.hid hsl
   have HBS : Hid (∀ W, Calls Tryz.prog 101 #[.int .i64 d.I.rows, .int .i64 P] W fun e w' => ∃ b, e = .returned (.tuple #[.slice (some ⟨b, 0, none⟩) P P, .int .i64 0]) ∧ W.heap.size ≤ b ∧ Box w' b ((ints s).map (Value.int .i64)) 3 ∧ Below W.heap.size W w') := Lib.hid fun W => by
    have := refSizes_ok R P W (by omega) (by omega) (by omega) (by omega)
    rw [hsz, ← hR] at this
    exact this
   clear hd hs f1 f2 f3 f4 hsz hsl hss hR hRn
   go_enter Tryz.func79, Tryz.ntmps79
   go_wp2_with fail
   refine (refBatchFault_any d _ _ ⟨_, _, _, _, _, _, _, _, _, _, rfl, x0.alloc _, x1.alloc _⟩).mono ?_
   rw [HD.out]
   rintro e w1 ⟨rfl, hb1⟩
   have B2 := ((show Box _ w.heap.size [.int .i64 d.I.rows, .int .i64 d.I.cols, .slice a n k, .int .i64 d.W.rows, .int .i64 d.W.cols, .slice a' n' k'] 49 from Box.x0)).keep hb1
   have B2c := B2.cell
   have B2f := B2.thawed
   have B2z := B2.lt
   have B2k := lt_add B2z
   have hkw1 : Below w.heap.size w w1 := (Below.x1 hb1)
   replace x0 := x0.keep hkw1
   replace x1 := x1.keep hkw1
   have hsw1 := hkw1.size
   go_wp2_with fail
   refine (HBS.out _).mono ?_
   rintro e w2 ⟨bs, rfl, hbs, BS, hb2⟩
   have hkw2 : Below w1.heap.size w1 w2 := (Below.x1 hb2)
   replace B2 := B2.keep hkw2
   replace B2c := B2.cell
   replace B2f := B2.thawed
   replace B2z := B2.lt
   replace B2k := lt_add B2z
   replace x0 := x0.keep hkw2
   replace x1 := x1.keep hkw2
   have hsw2 := hkw2.size
   have hbw2 : Below w.heap.size w w2 := (Below.x2 hb2 hb1)
   have hz1' : w.heap.size + 1 ≤ w2.heap.size := by have := B2z; omega
   have hbs2 : bs < w2.heap.size := BS.lt
   go_wp2
   go_loopw [8, 9, 10] (fun u t j wr => ∃ q : Nat, q ≤ P ∧ j = .int .i64 q ∧ t = .int .i64 (atOf s q) ∧ OwnRow Form.bat 49 wr w2.heap.size (newB (w.heap.size + 1)) u (partsTo d s q) ∧ Below w2.heap.size w2 wr) (fun _ _ j _ => P - (intOf j).toNat)
   case atStart => exact ⟨0, Nat.zero_le _, rfl, rfl, OwnRow.nil _ _ _ _ _, Below.refl _ _⟩
   case round =>
    obtain ⟨q, hq, rfl, rfl, hown, hbr⟩ := hrel
    have hkwr : Below w2.heap.size w2 wr := (Below.x1 hbr)
    replace B2 := B2.keep hkwr
    replace B2c := B2.cell
    replace B2f := B2.thawed
    replace B2z := B2.lt
    replace B2k := lt_add B2z
    replace x0 := x0.keep hkwr
    replace x1 := x1.keep hkwr
    replace BS := BS.keep hkwr
    obtain ⟨av, cv, hv⟩ := hown.slice
    rw [partsTo_length] at hv
    subst hv
    have HL := Lib.hid (partsTo_length d s q)
    by_cases hlt : q < P
    ·have hle := HLE.out q
     have hle1 := HLE.out (q + 1)
     have hql : q < (ints s).length := by rw [ints_length, HSL.out]; exact hlt
     have HXQ : Hid (ix (ints s) q = (nx s q : Int)) := Lib.hid (by unfold ix ints nx; rw [List.getElem?_map, List.getElem?_eq_getElem (by rw [HSL.out]; exact hlt)]; rfl)
     have hat : (atOf s q : Int) + (nx s q : Int) = (atOf s (q + 1) : Int) := by show _ = ((atOf s q + nx s q : Nat) : Int); omega
     have hw1 : IntKind.i64.wrap ((atOf s q : Int) + (nx s q : Int)) = (atOf s (q + 1) : Int) := by rw [hat]; exact IntWalk.i64_in _ (by omega)
     have hi2 : (q : Int) < (P : Int) := by omega
     have hi3 : (0 : Int) ≤ (q : Int) := by omega
     clear hat
     have hzw : w2.heap.size ≤ wr.heap.size := hbr.size
     have hb2z : w.heap.size < wr.heap.size := B2z
     have hbsz : bs < wr.heap.size := BS.lt
     have l0 : 0 < n → b < wr.heap.size := x0.lt
     have l1 : 0 < n' → b' < wr.heap.size := x1.lt
     have hrowq : ∀ r, (Value.slice av q cv).ownBlock = some r → w2.heap.size ≤ r ∧ r < wr.heap.size := fun r hr => hown.base_le r hr
     go_wp2_with fail
     go_cut [11] (fun s1 wx => ∃ p a5 n5 k5 b5 o5, s1 = .pointer (some ⟨p, 0, none⟩) ∧ Box wx p [.int .i64 (matRows d.I (atOf s q) (atOf s (q + 1))).rows, .int .i64 (matRows d.I (atOf s q) (atOf s (q + 1))).cols, .slice a5 n5 k5] 25 ∧ IntsAt wx a5 n5 k5 b5 o5 (matRows d.I (atOf s q) (atOf s (q + 1))).cells ∧ (0 < n5 → wr.heap.size ≤ b5) ∧ Below wr.heap.size wr wx)
     case first =>
      go_region_held3 (fun w' => w'.cell? ⟨w.heap.size, 0, none⟩ = some (.int .i64 d.I.rows) ∧ w'.cell? ⟨w.heap.size, 1, none⟩ = some (.int .i64 d.I.cols) ∧ w'.cell? ⟨w.heap.size, 2, none⟩ = some (.slice a n k) ∧ w'.cell? ⟨bs, q, none⟩ = some (.int .i64 (nx s q))) (exact cellsS0 (t := 49) (u := 3) (xs := ints s) (v3 := .int .i64 d.W.rows) (v4 := .int .i64 d.W.cols) (v5 := .slice a' n' k') (by first | exact B2.k1 hb5 | exact B2.k) (by first | exact BS.k1 hb5 | exact BS.k) hql HXQ.out) ((go_at_call 102; go_must (refine (refMatRows_all d.I (atOf s q) (atOf s (q + 1)) _ _ (MatAt.mk (show IntsAt _ a n k b o d.I.cells from x0.k)) (PI.out q)).mono ?_); go_must (rintro e w5 ⟨v5, rfl, ⟨a5, n5, k5, b5, o5, rfl, hn5, x5⟩, hb5⟩); (try (refine (fun (P1 : Box w5 (wr.heap.size) [.int .i64 0, .int .i64 0, .slice none 0 0] 25) => ?_) ?_; rotate_left 1; (with_reducible refine Box.keep ?_ hb5); (focus ((repeat (first | (with_reducible refine (Box.new' _ (wr.heap.size) _ _ ?_); (simp; done)) | (with_reducible refine Box.alloc ?_ _) | (with_reducible refine Box.drew ?_) | (with_reducible refine Box.drewN ?_ _))); done)); have P1c := P1.cell; have P1f := P1.thawed; have P1z := P1.lt))))
      all_goals (
       go_wp2_with fail
       go_meet
       simp at hn5
       exact ⟨_, a5, n5, k5, b5, o5, rfl, (by repeat (first | (with_reducible first | (refine (Box.new' _ _ _ _ ?_); (simp; done)) | refine Box.alloc ?_ _ | refine Box.drewN ?_ _ | refine Box.drew ?_ | refine Box.set6z ?_ _ _ _ _ _ _ | refine Box.set3z ?_ _ _ _ | refine Box.fx ?_ _ | refine Box.keep ?_ hb5))), (by repeat (first | (with_reducible first | exact x5 | refine IntsAt.alloc ?_ _ | refine IntsAt.drewN ?_ _ | refine IntsAt.drew ?_ | (refine IntsAt.set ?_ ?_ _; rotate_left 1; (intro h0; have hq0 := hn5 h0; first | (dsimp only; omega) | omega | (simp; omega) | simp))) | exact x5)), fun h => by have := hn5 h; omega, (Below.x1 hb5)⟩)
     case rest =>
     obtain ⟨p5, a5, n5, k5, b5, o5, rfl, Q5, x5, l5, hc5⟩ := hcut
     have hbwA : Below w2.heap.size w2 wc := (Below.y1 hc5 hbr)
     have hkwc : Below wr.heap.size wr wc := (Below.x1 hc5)
     replace B2 := B2.keep hkwc
     replace B2c := B2.cell
     replace B2f := B2.thawed
     replace B2z := B2.lt
     replace B2k := lt_add B2z
     replace x1 := x1.keep hkwc
     replace BS := BS.keep hkwc
     replace hown := hown.keep hc5
     have Q5 := Q5
     have Q5c := Q5.cell
     have Q5f := Q5.thawed
     have Q5z := Q5.lt
     have Q5k := lt_add Q5z
     have hbsz2 : bs < wc.heap.size := BS.lt
     have lw1 : 0 < n' → b' < wc.heap.size := x1.lt
     have l5' := x5.lt
     have hzc : wr.heap.size ≤ wc.heap.size := hc5.size
     obtain ⟨wA, hwA, B2A, BSA, x1A, x5A, Q5A, hownA, hbA⟩ : ∃ wA, wA = wc ∧ Box wA w.heap.size [.int .i64 d.I.rows, .int .i64 d.I.cols, .slice a n k, .int .i64 d.W.rows, .int .i64 d.W.cols, .slice a' n' k'] 49 ∧ Box wA bs ((ints s).map (Value.int .i64)) 3 ∧ IntsAt wA a' n' k' b' o' d.W.cells ∧ IntsAt wA a5 n5 k5 b5 o5 (matRows d.I (atOf s q) (atOf s (q + 1))).cells ∧ Box wA p5 [.int .i64 (matRows d.I (atOf s q) (atOf s (q + 1))).rows, .int .i64 (matRows d.I (atOf s q) (atOf s (q + 1))).cols, .slice a5 n5 k5] 25 ∧ OwnRow Form.bat 49 wA w2.heap.size (newB (w.heap.size + 1)) (.slice av q cv) (partsTo d s q) ∧ Below w2.heap.size w2 wA := ⟨wc, rfl, B2, BS, x1, x5, Q5, hown, hbwA⟩
     rw [← hwA]
     have hzA : wr.heap.size ≤ wA.heap.size := by rw [hwA]; exact hzc
     have hb2A : w.heap.size < wA.heap.size := B2A.lt
     have hbsA : bs < wA.heap.size := BSA.lt
     have hp5A : p5 < wA.heap.size := Q5A.lt
     have lwA : 0 < n' → b' < wA.heap.size := x1A.lt
     have l5A : 0 < n5 → b5 < wA.heap.size := x5A.lt
     clear hwA B2 B2c B2f B2z B2k BS x0 x1 x5 Q5 Q5c Q5f Q5z Q5k hown hbwA hc5 hzc lw1 l5' hbsz2
     have B2 := B2A
     have B2c := B2.cell
     have B2f := B2.thawed
     have B2z := B2.lt
     have B2k := lt_add B2z
     have Q5 := Q5A
     have Q5c := Q5.cell
     have Q5f := Q5.thawed
     have Q5z := Q5.lt
     have Q5k := lt_add Q5z
     have BS := BSA
     have x1 := x1A
     go_wp2_with fail
     go_cut [12] (fun s1 wx => ∃ p a6 n6 k6 b6 o6, s1 = .pointer (some ⟨p, 0, none⟩) ∧ Box wx p [.int .i64 (matRows d.W (atOf s q) (atOf s (q + 1))).rows, .int .i64 (matRows d.W (atOf s q) (atOf s (q + 1))).cols, .slice a6 n6 k6] 25 ∧ IntsAt wx a6 n6 k6 b6 o6 (matRows d.W (atOf s q) (atOf s (q + 1))).cells ∧ (0 < n6 → wA.heap.size ≤ b6) ∧ Below wA.heap.size wA wx)
     case first =>
      go_region_held3 (fun w' => w'.cell? ⟨w.heap.size, 3, none⟩ = some (.int .i64 d.W.rows) ∧ w'.cell? ⟨w.heap.size, 4, none⟩ = some (.int .i64 d.W.cols) ∧ w'.cell? ⟨w.heap.size, 5, none⟩ = some (.slice a' n' k') ∧ w'.cell? ⟨bs, q, none⟩ = some (.int .i64 (nx s q))) (exact cellsS3 (t := 49) (u := 3) (xs := ints s) (v0 := .int .i64 d.I.rows) (v1 := .int .i64 d.I.cols) (v2 := .slice a n k) (by first | exact B2.k1 hb6 | exact B2.k) (by first | exact BS.k1 hb6 | exact BS.k) hql HXQ.out) ((go_at_call 102; go_must (refine (refMatRows_all d.W (atOf s q) (atOf s (q + 1)) _ _ (MatAt.mk (show IntsAt _ a' n' k' b' o' d.W.cells from x1.k)) (PW.out q)).mono ?_); go_must (rintro e w6 ⟨v6, rfl, ⟨a6, n6, k6, b6, o6, rfl, hn6, x6⟩, hb6⟩); (try (refine (fun (P1 : Box w6 (wA.heap.size) [.int .i64 0, .int .i64 0, .slice none 0 0] 25) => ?_) ?_; rotate_left 1; (with_reducible refine Box.keep ?_ hb6); (focus ((repeat (first | (with_reducible refine (Box.new' _ (wA.heap.size) _ _ ?_); (simp; done)) | (with_reducible refine Box.alloc ?_ _) | (with_reducible refine Box.drew ?_) | (with_reducible refine Box.drewN ?_ _))); done)); have P1c := P1.cell; have P1f := P1.thawed; have P1z := P1.lt))))
      all_goals (
       go_wp2_with fail
       go_meet
       simp at hn6
       exact ⟨_, a6, n6, k6, b6, o6, rfl, (by repeat (first | (with_reducible first | (refine (Box.new' _ _ _ _ ?_); (simp; done)) | refine Box.alloc ?_ _ | refine Box.drewN ?_ _ | refine Box.drew ?_ | refine Box.set6z ?_ _ _ _ _ _ _ | refine Box.set3z ?_ _ _ _ | refine Box.fx ?_ _ | refine Box.keep ?_ hb6))), (by repeat (first | (with_reducible first | exact x6 | refine IntsAt.alloc ?_ _ | refine IntsAt.drewN ?_ _ | refine IntsAt.drew ?_ | (refine IntsAt.set ?_ ?_ _; rotate_left 1; (intro h0; have hq0 := hn6 h0; first | (dsimp only; omega) | omega | (simp; omega) | simp))) | exact x6)), fun h => by have := hn6 h; omega, (Below.x1 hb6)⟩)
     case rest =>
     obtain ⟨p6, a6, n6, k6, b6, o6, rfl, Q6, x6, l6, hc6⟩ := hcut
     have hkwc : Below wA.heap.size wA wc := (Below.x1 hc6)
     replace Q5 := Q5.keep hkwc
     replace Q5c := Q5.cell
     replace Q5f := Q5.thawed
     replace Q5z := Q5.lt
     replace Q5k := lt_add Q5z
     replace x5A := x5A.keep hkwc
     replace BS := BS.keep hkwc
     replace hownA := hownA.keep hc6
     have Q6 := Q6
     have Q6c := Q6.cell
     have Q6f := Q6.thawed
     have Q6z := Q6.lt
     have Q6k := lt_add Q6z
     have hbwC : Below w2.heap.size w2 wc := (Below.y1 hc6 hbA)
     have hcs := BS.icell hql
     rw [HXQ.out] at hcs
     have hzC : wA.heap.size ≤ wc.heap.size := hc6.size
     clear B2 B2c B2f B2z B2k x1 hw1
     have hw1 : IntKind.i64.wrap ((atOf s q : Int) + (nx s q : Int)) = (atOf s (q + 1) : Int) := by rw [show (atOf s q : Int) + (nx s q : Int) = (atOf s (q + 1) : Int) by show _ = ((atOf s q + nx s q : Nat) : Int); omega]; exact IntWalk.i64_in _ (by omega)
     go_wp2_with (at_builtin; refine wpList_push rfl (.tmp 54) (.tmp 58) 62 rfl Form.bat w2.heap.size (newB (w.heap.size + 1)) 49 i0 (.agg #[.int .i64 0, .int .i64 0, .slice none 0 0, .int .i64 0, .int .i64 0, .slice none 0 0]) 80 Tryz.underlying62 hi hz0 hz1 hz2 rfl (by decide) (.slice av q cv) (partsTo d s q) rfl (hownA.keep ((Below.refl wc.heap.size wc).alloc (Nat.le_refl _) _)) wc.heap.size 1 [.int .i64 (matRows d.I (atOf s q) (atOf s (q + 1))).rows, .int .i64 (matRows d.I (atOf s q) (atOf s (q + 1))).cols, .slice a5 n5 k5, .int .i64 (matRows d.W (atOf s q) (atOf s (q + 1))).rows, .int .i64 (matRows d.W (atOf s q) (atOf s (q + 1))).cols, .slice a6 n6 k6] 49 (partOf d s q) rfl (Box.new _ _ _) (reads_bat (d := partOf d s q) (fun h => ⟨by have := l5 h; unfold newB; omega, fun e => by have := (hrowq _ e).2; have := l5 h; omega⟩) (x5A.alloc _) (fun h => ⟨by have := l6 h; unfold newB; omega, fun e => by have := (hrowq _ e).2; have := l6 h; omega⟩) (x6.alloc _)) (by rw [HL.out]; omega) (by rw [HL.out]; unfold maxLen; omega) (by have := hbwC.size; simp; omega) _ rfl ?_)
     intro g cap w' hown7 hgrow hgv hgl
     have hbn : Below w2.heap.size w2 w' := Below.grown (Below.al hbwC _) hgrow (by have := hbwC.size; simp; omega) (fun r hr => (hrowq r hr).1)
     have hcn : w'.cell? ⟨bs, q, none⟩ = some (.int .i64 (nx s q)) := by
      have B7 := (BS.alloc (.cells #[.int .i64 (matRows d.I (atOf s q) (atOf s (q + 1))).rows, .int .i64 (matRows d.I (atOf s q) (atOf s (q + 1))).cols, .slice a5 n5 k5, .int .i64 (matRows d.W (atOf s q) (atOf s (q + 1))).rows, .int .i64 (matRows d.W (atOf s q) (atOf s (q + 1))).cols, .slice a6 n6 k6] 49)).grown hgrow (fun e => by have := (hrowq _ e.symm).1; omega)
      have := B7.icell hql
      rw [HXQ.out] at this
      exact this
     go_wp2
     go_roundw
     case rel => exact ⟨q + 1, by omega, by go_num, rfl, by rw [partsTo_succ]; exact hown7, hbn⟩
     case measure => simp [intOf]; omega
    ·obtain rfl : q = P := by omega
     have hbe : Below w.heap.size w wr := (Below.y1 hbr hbw2)
     obtain ⟨av', cv', bb, hv, hbb, hrow⟩ := hown.row (G := newB w.heap.size) (fun c hc _ => by unfold newB at *; omega) (fun c hc => by unfold newB; omega)
     rw [partsTo_length] at hv hbb hrow
     have HR := Lib.hid (show ∃ a k b, Value.slice av q cv = .slice a q k ∧ RowAt Form.bat wr (newB w.heap.size) a q k b 0 (partsTo d s q) from ⟨_, _, _, hv, hrow⟩)
     clear hv hown hrow B2 B2c B2f B2z B2k x0 x1 BS
     go_wp2
     refine bodyPost_ret (v := .tuple #[.slice av q cv, .int .i64 0]) (by simp [results, Tryz.results79, go_sem]) rfl ⟨.slice av q cv, ?_, hbe, ?_, ?_⟩
     ·rw [HS0.out]
     ·exact fun _ => HR.out
     ·exact fun h => absurd HS0.out h
  ·have HN := Lib.hid hs
   have q1 : (sizesFault d.I.rows p != 0) = true := by simp [hs]
   clear hs hd
   go_enter Tryz.func79, Tryz.ntmps79
   go_wp2_with fail
   refine (refBatchFault_any d _ _ ⟨_, _, _, _, _, _, _, _, _, _, rfl, x0.alloc _, x1.alloc _⟩).mono ?_
   rw [HD.out]
   rintro e w1 ⟨rfl, hb1⟩
   have B2 := ((show Box _ w.heap.size [.int .i64 d.I.rows, .int .i64 d.I.cols, .slice a n k, .int .i64 d.W.rows, .int .i64 d.W.cols, .slice a' n' k'] 49 from Box.x0)).keep hb1
   have B2c := B2.cell
   have B2f := B2.thawed
   have B2z := B2.lt
   have B2k := lt_add B2z
   go_wp2_with fail
   refine (refSizes_bad d.I.rows p _ HN.out).mono ?_
   rintro e w' ⟨rfl, rfl⟩
   go_wp2
   refine bodyPost_ret (v := .tuple #[.slice none 0 0, .int .i64 (sizesFault d.I.rows p)]) (by simp [results, Tryz.results79, go_sem]) rfl ⟨.slice none 0 0, ?_, (Below.x1 hb1), ?_, ?_⟩
   ·rfl
   ·exact fun h => absurd h HN.out
   ·exact fun _ => rfl
 ·have HF : Hid (splitFault d p = d.fault) := Lib.hid (by unfold splitFault; rw [if_pos hd])
  have HN := Lib.hid hd
  have q1 : (d.fault != 0) = true := by simp [hd]
  rw [HF.out]
  clear hd
  go_enter Tryz.func79, Tryz.ntmps79
  go_wp2_with fail
  refine (refBatchFault_any d _ _ ⟨_, _, _, _, _, _, _, _, _, _, rfl, x0.alloc _, x1.alloc _⟩).mono ?_
  rintro e w1 ⟨rfl, hb1⟩
  go_wp2
  refine bodyPost_ret (v := .tuple #[.slice none 0 0, .int .i64 d.fault]) (by simp [results, Tryz.results79, go_sem]) rfl ⟨.slice none 0 0, ?_, (Below.x1 hb1), ?_, ?_⟩
  ·rfl
  ·exact fun h => absurd h HN.out
  ·exact fun _ => rfl
end Go.Proofs.YtgknjikjjklaiaaGreatDoor
end
section
set_option linter.unusedVariables false
set_option linter.unusedSimpArgs false
namespace Go.Proofs.YtgknjikjjklaiaaGreatDoor
open Go.RowKit Gal
set_option linter.unusedSectionVars false
set_option maxRecDepth 100000
set_option maxHeartbeats 4000000
theorem refNetWide_any (ls : List Lay) (F : Nat → Prop) (a : Option Addr) (n k b o : Nat) (i : Int) (w : World) (h : RowAt Form.lay w F a n k b o ls) (hi : -9223372036854775808 ≤ i ∧ i ≤ 9223372036854775807) :
  Calls Tryz.prog 80 #[.slice a n k, .int .i64 i] w fun e w' => e = .returned (.tuple #[.int .i64 (okOr (netWideFault ls i) (netW ls i n)), .int .i64 (netWideFault ls i)]) ∧ Below w.heap.size w w' := by
 have hl := h.len
 have hm := h.max
 unfold maxLen at hm
 by_cases h12 : 12 < n
 ·have hf : netWideFault ls i = 3 := by unfold netWideFault; rw [if_pos (by omega)]
  rw [hf, okOr_bad (by omega)]
  clear hf
  go_enter Tryz.func80, Tryz.ntmps80
  go_wp2
  refine bodyPost_ret (v := .tuple #[.int .i64 0, .int .i64 3]) (by simp [results, Tryz.results80, go_sem]) rfl ⟨?_, ?_⟩
  ·rfl
  ·exact Below.refl _ _
 ·have HF0 : Hid (netWideFault ls i = if n = 0 ∧ (i < 0 ∨ 12 < i) then 1 else wideTo ls i n) := Lib.hid (by unfold netWideFault; rw [if_neg (by omega), hl])
  go_enter Tryz.func80, Tryz.ntmps80
  go_wp2
  go_loopw [1, 6] (fun s j wr => ∃ t : Nat, t ≤ n ∧ j = .int .i64 t ∧ s = .int .i64 (netW ls i t) ∧ wideTo ls i t = 0 ∧ Below w.heap.size w wr) (fun _ j _ => n - (intOf j).toNat)
  case atStart => exact ⟨0, Nat.zero_le _, rfl, rfl, rfl, Below.refl _ _⟩
  case round =>
   obtain ⟨t, ht, rfl, rfl, hw0, hbr⟩ := hrel
   have HW := Lib.hid hw0
   have hbd : -9223372036854775808 ≤ netW ls i t ∧ netW ls i t ≤ 9223372036854775807 := by
    rcases Nat.eq_zero_or_pos t with rfl | hp
    ·exact hi
    ·have := netW_bd hw0 hp; omega
   by_cases hlt : t < n
   ·clear hw0
    have HFN : Hid (netWideFault ls i = wideTo ls i n) := Lib.hid (by rw [HF0.out, if_neg (by omega)])
    have HST : Hid ((lx ls t).wideFault (netW ls i t) ≠ 0 → wideTo ls i n = (lx ls t).wideFault (netW ls i t)) := Lib.hid fun hne => by
     have hs : wideTo ls i (t + 1) = (lx ls t).wideFault (netW ls i t) := wideTo_succ HW.out
     rw [wideTo_stop (show t + 1 ≤ n by omega) (by rw [hs]; exact hne), hs]
    obtain rfl := h.ptr (by omega)
    obtain ⟨a1, n1, k1, b1, o1, a2, n2, k2, b2, o2, c0, c1, c2, c3, c4, c5, c6, x1, x2⟩ := lay_cells (h.keep hbr) hlt
    have hbs := (h.keep hbr).lt (by omega)
    by_cases hf : (lx ls t).fault = 0
    ·have HF := Lib.hid hf
     by_cases h1 : netW ls i t < 0 ∨ 12 < netW ls i t
     ·have HWF : Hid ((lx ls t).wideFault (netW ls i t) = 1) := Lib.hid (by unfold Lay.wideFault; rw [if_neg (by simp [hf]), if_pos h1])
      clear hf
      rcases h1 with h1 | h1
      ·go_wp2_with fail
       refine (refLayerFault_any (lx ls t) _ _ ⟨_, _, _, _, _, _, _, _, _, _, rfl, x1, x2⟩).mono ?_
       rw [HF.out]
       rintro e w1 ⟨rfl, hb1⟩
       have hbe : Below w.heap.size w w1 := (Below.y1 hb1 hbr)
       go_wp2
       refine bodyPost_ret (v := .tuple #[.int .i64 0, .int .i64 1]) (by simp [results, Tryz.results80, go_sem]) rfl ⟨?_, ?_⟩
       ·rw [HFN.out, HST.out (by rw [HWF.out]; decide), HWF.out, okOr_bad (by decide)]
       ·exact hbe
      ·go_wp2_with fail
       refine (refLayerFault_any (lx ls t) _ _ ⟨_, _, _, _, _, _, _, _, _, _, rfl, x1, x2⟩).mono ?_
       rw [HF.out]
       rintro e w1 ⟨rfl, hb1⟩
       have hbe : Below w.heap.size w w1 := (Below.y1 hb1 hbr)
       go_wp2
       refine bodyPost_ret (v := .tuple #[.int .i64 0, .int .i64 1]) (by simp [results, Tryz.results80, go_sem]) rfl ⟨?_, ?_⟩
       ·rw [HFN.out, HST.out (by rw [HWF.out]; decide), HWF.out, okOr_bad (by decide)]
       ·exact hbe
     ·have h2 : 0 ≤ netW ls i t := by omega
      have h3 : netW ls i t ≤ 12 := by omega
      have HWF : Hid ((lx ls t).wideFault (netW ls i t) = if (lx ls t).takes (netW ls i t) then 0 else 2) := Lib.hid (by unfold Lay.wideFault; rw [if_neg (by simp [hf]), if_neg h1])
      clear hf h1
      by_cases hk : (lx ls t).takes (netW ls i t)
      ·have HO : Hid ((lx ls t).wideOr (netW ls i t) = netW ls i (t + 1)) := Lib.hid (if_pos hk)
       have hz : (lx ls t).wideFault (netW ls i t) = 0 := by rw [HWF.out, if_pos hk]
       have hn0 : 0 ≤ netW ls i (t + 1) := (wide_bd hz).1
       have HZ := Lib.hid hz
       clear hz hk
       go_wp2_with fail
       refine (refLayerFault_any (lx ls t) _ _ ⟨_, _, _, _, _, _, _, _, _, _, rfl, x1, x2⟩).mono ?_
       rw [HF.out]
       rintro e w1 ⟨rfl, hb1⟩
       have d0 := cell_keep hb1 c0
       have d1 := cell_keep hb1 c1
       have d2 := cell_keep hb1 c2
       have d3 := cell_keep hb1 c3
       have d4 := cell_keep hb1 c4
       have d5 := cell_keep hb1 c5
       have d6 := cell_keep hb1 c6
       have y1 := x1.keep hb1
       have y2 := x2.keep hb1
       go_wp2_with fail
       refine (refWideOf_any (lx ls t) _ (netW ls i t) _ ⟨_, _, _, _, _, _, _, _, _, _, rfl, y1, y2⟩).mono ?_
       rw [HO.out]
       rintro e w2 ⟨rfl, hb2⟩
       have hbe : Below w.heap.size w w2 := (by repeat (first | (with_reducible first | exact Below.refl _ _ | exact hbr | refine Below.al ?_ _ | refine Below.drN ?_ _ | refine Below.drew ?_ | refine Below.sx ?_ _ | refine Below.go ?_ hb2 | refine Below.go ?_ hb1) | exact Below.refl _ _ | exact hbr))
       go_wp2
       go_roundw
       case rel => exact ⟨t + 1, by omega, by go_num, rfl, by rw [wideTo_succ HW.out]; exact HZ.out, hbe⟩
       case measure => simp [intOf]; omega
      ·have HO : Hid ((lx ls t).wideOr (netW ls i t) = -1) := Lib.hid (if_neg hk)
       have HWG : Hid ((lx ls t).wideFault (netW ls i t) = 2) := Lib.hid (by rw [HWF.out, if_neg hk])
       clear hk
       go_wp2_with fail
       refine (refLayerFault_any (lx ls t) _ _ ⟨_, _, _, _, _, _, _, _, _, _, rfl, x1, x2⟩).mono ?_
       rw [HF.out]
       rintro e w1 ⟨rfl, hb1⟩
       have d0 := cell_keep hb1 c0
       have d1 := cell_keep hb1 c1
       have d2 := cell_keep hb1 c2
       have d3 := cell_keep hb1 c3
       have d4 := cell_keep hb1 c4
       have d5 := cell_keep hb1 c5
       have d6 := cell_keep hb1 c6
       have y1 := x1.keep hb1
       have y2 := x2.keep hb1
       go_wp2_with fail
       refine (refWideOf_any (lx ls t) _ (netW ls i t) _ ⟨_, _, _, _, _, _, _, _, _, _, rfl, y1, y2⟩).mono ?_
       rw [HO.out]
       rintro e w2 ⟨rfl, hb2⟩
       have hbe : Below w.heap.size w w2 := (by repeat (first | (with_reducible first | exact Below.refl _ _ | exact hbr | refine Below.al ?_ _ | refine Below.drN ?_ _ | refine Below.drew ?_ | refine Below.sx ?_ _ | refine Below.go ?_ hb2 | refine Below.go ?_ hb1) | exact Below.refl _ _ | exact hbr))
       go_wp2
       refine bodyPost_ret (v := .tuple #[.int .i64 0, .int .i64 2]) (by simp [results, Tryz.results80, go_sem]) rfl ⟨?_, ?_⟩
       ·rw [HFN.out, HST.out (by rw [HWG.out]; decide), HWG.out, okOr_bad (by decide)]
       ·exact hbe
    ·have HWF : Hid ((lx ls t).wideFault (netW ls i t) = (lx ls t).fault) := Lib.hid (by unfold Lay.wideFault; rw [if_pos hf])
     have HN := Lib.hid hf
     have q1 : ((lx ls t).fault == 0) = false := by simp [hf]
     have q2 : ((lx ls t).fault != 0) = true := by simp [hf]
     clear hf
     go_wp2_with fail
     refine (refLayerFault_any (lx ls t) _ _ ⟨_, _, _, _, _, _, _, _, _, _, rfl, x1, x2⟩).mono ?_
     rintro e w1 ⟨rfl, hb1⟩
     have hbe : Below w.heap.size w w1 := (Below.y1 hb1 hbr)
     go_wp2
     refine bodyPost_ret (v := .tuple #[.int .i64 0, .int .i64 (lx ls t).fault]) (by simp [results, Tryz.results80, go_sem]) rfl ⟨?_, ?_⟩
     ·rw [HFN.out, HST.out (by rw [HWF.out]; exact HN.out), HWF.out, okOr_bad HN.out]
     ·exact hbe
   ·obtain rfl : t = n := by omega
    by_cases h1 : netW ls i t < 0 ∨ 12 < netW ls i t
    ·have ht0 : t = 0 := by
      rcases Nat.eq_zero_or_pos t with h | h
      ·exact h
      ·have := netW_bd hw0 h; omega
     have HFF : Hid (netWideFault ls i = 1) := Lib.hid (by rw [HF0.out, if_pos ⟨ht0, by subst ht0; exact h1⟩])
     clear hw0 ht0
     rcases h1 with h1 | h1
     ·go_wp2
      refine bodyPost_ret (v := .tuple #[.int .i64 0, .int .i64 1]) (by simp [results, Tryz.results80, go_sem]) rfl ⟨?_, ?_⟩
      ·rw [HFF.out, okOr_bad (by decide)]
      ·exact hbr
     ·go_wp2
      refine bodyPost_ret (v := .tuple #[.int .i64 0, .int .i64 1]) (by simp [results, Tryz.results80, go_sem]) rfl ⟨?_, ?_⟩
      ·rw [HFF.out, okOr_bad (by decide)]
      ·exact hbr
    ·have h2 : 0 ≤ netW ls i t := by omega
     have h3 : netW ls i t ≤ 12 := by omega
     have HFF : Hid (netWideFault ls i = 0) := Lib.hid (by
      rw [HF0.out, if_neg, hw0]
      rintro ⟨rfl, q⟩
      exact h1 q)
     clear hw0 h1
     go_wp2
     refine bodyPost_ret (v := .tuple #[.int .i64 (netW ls i t), .int .i64 0]) (by simp [results, Tryz.results80, go_sem]) rfl ⟨?_, ?_⟩
     ·rw [HFF.out, okOr_ok rfl]
     ·exact hbr
end Go.Proofs.YtgknjikjjklaiaaGreatDoor
end
