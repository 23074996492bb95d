/- Texts joined: RNet2. -/
import Derived.Test.YtgknjikjjklaiaaGreatDoorJ35
import Derived.Test.YtgknjikjjklaiaaGreatDoorJ02
import Derived.Test.YtgknjikjjklaiaaGreatDoorJ04
import Derived.Test.YtgknjikjjklaiaaGreatDoorJ19
import Derived.Test.YtgknjikjjklaiaaGreatDoorJ07
import Derived.Test.YtgknjikjjklaiaaGreatDoorJ21
import Derived.Test.YtgknjikjjklaiaaGreatDoorJ22
import Derived.Test.YtgknjikjjklaiaaGreatDoorJ28
import Derived.Test.YtgknjikjjklaiaaGreatDoorJ39
section
set_option linter.unusedVariables false
set_option linter.unusedSimpArgs false
set_option linter.unusedSectionVars false
namespace Gal
open Go Go.RowKit
section
variable {w w' : World} {b i : Nat} {v0 v1 v2 v3 v4 v5 v6 : Value}
theorem cells7b {c : Nat} {t : TypeId} {x y z : Value} (h : Cells7 w b i v0 v1 v2 v3 v4 v5 v6) (k : Box w c [x, y, z] t) :
  w.cell? ⟨b, i, none⟩ = some v0 ∧ w.cell? ⟨b, i + 1, none⟩ = some v1 ∧ w.cell? ⟨b, i + 2, none⟩ = some v2 ∧ w.cell? ⟨b, i + 3, none⟩ = some v3 ∧ w.cell? ⟨b, i + 4, none⟩ = some v4 ∧ w.cell? ⟨b, i + 5, none⟩ = some v5 ∧ w.cell? ⟨b, i + 6, none⟩ = some v6 ∧ w.cell? ⟨c, 0, none⟩ = some x ∧ w.cell? ⟨c, 1, none⟩ = some y ∧ w.cell? ⟨c, 2, none⟩ = some z :=
 ⟨h.c0, h.c1, h.c2, h.c3, h.c4, h.c5, h.c6, k.cell 0, k.cell 1, k.cell 2⟩
end
end Gal
namespace Go.Proofs.YtgknjikjjklaiaaGreatDoor
open Go.RowKit Gal
set_option maxRecDepth 100000
set_option maxHeartbeats 4000000
section
variable (ls : List Lay) (F : Nat → Prop) (a : Option Addr) (n k b o : Nat) (x : Mat) (vx : Value) (w : World) (h : RowAt Form.lay w F a n k b o ls) (hx : MatAt w vx x)
include h hx
theorem refNetGo_any : Calls Tryz.prog 7 #[.slice a n k, vx] w fun e w' => ∃ v, e = .returned (.tuple #[v, .int .i64 (netGoFault ls x)]) ∧ Below w.heap.size w w' ∧
      (netGoFault ls x = 0 → ∃ a' k' b', v = .slice a' (n + 1) k' ∧ RowAt Form.mat w' anyB a' (n + 1) k' b' 0 (netOuts ls x n)) ∧ (netGoFault ls x ≠ 0 → v = .slice none 0 0) := by
  obtain ⟨i0, hi, hz0, hz1, hz2⟩ := info_parts info_mat
  obtain ⟨ax, nx, kx, bx, ox, rfl, x0⟩ := hx
  have hl := h.len
  have hm := h.max
  unfold maxLen at hm
  by_cases h12 : 12 < n
  · have hf : netGoFault ls x = 3 := by unfold netGoFault; rw [if_pos (by omega)]
    rw [hf]
    go_enter Tryz.func7, Tryz.ntmps7
    go_wp2
    refine bodyPost_ret (v := .tuple #[.slice none 0 0, .int .i64 3]) (by simp [results, Tryz.results7, go_sem]) rfl ⟨.slice none 0 0, ?_, Below.x0, ?_, ?_⟩
    · rfl
    · exact fun h => absurd h (by decide)
    · exact fun _ => rfl
  · by_cases hf : x.fault = 0
    · have HF : Hid (netGoFault ls x = goTo ls x n) := Lib.hid (by unfold netGoFault; rw [if_neg (by omega), if_neg (by simp [hf]), hl])
      have HX := Lib.hid hf
      clear hf
      rw [HF.out]
      have lx0 := x0.lt
      go_enter Tryz.func7, Tryz.ntmps7
      go_wp2_with fail
      refine (refMatFault_any x _ _ (MatAt.mk (x0.alloc _))).mono ?_
      rw [HX.out]
      rintro e w1 ⟨rfl, hb1⟩
      have B3 := (Box.new w [.int .i64 x.rows, .int .i64 x.cols, .slice ax nx kx] 25).keep hb1
      have B3c := B3.cell
      have B3f := B3.thawed
      have B3z := B3.lt
      have B3k := lt_add B3z
      have hz1' : w.heap.size + 1 ≤ w1.heap.size := by have := hb1.size; simp at this; omega
      have hbw1 : Below w.heap.size w w1 := (Below.x1 hb1)
      have x1 := (x0.alloc _).keep hb1
      have hown0 : OwnRow Form.mat 25 (w1.alloc (.cells #[.int .i64 x.rows, .int .i64 x.cols, .slice ax nx kx] 25)) w1.heap.size (fun b => b ≠ w.heap.size) (.slice (some ⟨w1.heap.size, 0, none⟩) 1 1) (netOuts ls x 0) :=
        own_one (Box.new _ _ _) ⟨ax, nx, kx, bx, ox, rfl, fun h => ⟨by have := lx0 h; omega, by have := lx0 h; omega⟩, x1.alloc _⟩ (Nat.le_refl _)
      go_wp2
      go_loopw [7, 8] (fun s j wr => ∃ t : Nat, t ≤ n ∧ j = .int .i64 t ∧ goTo ls x t = 0 ∧ OwnRow Form.mat 25 wr w1.heap.size (fun b => b ≠ w.heap.size) s (netOuts ls x t) ∧ Below w.heap.size w wr ∧ w1.heap.size ≤ wr.heap.size ∧ ∃ ac nc kc bc oc, Box wr w.heap.size [.int .i64 (netTo ls x t).rows, .int .i64 (netTo ls x t).cols, .slice ac nc kc] 25 ∧ IntsAt wr ac nc kc bc oc (netTo ls x t).cells ∧ (0 < nc → bc ≠ w.heap.size)) (fun _ j _ => n - (intOf j).toNat)
      case atStart => exact ⟨0, Nat.zero_le _, rfl, rfl, hown0, (Below.y0 hbw1), by simp, ax, nx, kx, bx, ox, B3.alloc _, x1.alloc _, fun h => by have := lx0 h; omega⟩
      case round =>
        clear hown0 B3 B3c B3f B3z B3k x1
        obtain ⟨t, ht, rfl, hg0, hown, hbr, hzr, ac, nc, kc, bc, oc, BX, xc, lc⟩ := hrel
        obtain ⟨av, cv, hv⟩ := hown.slice
        rw [netOuts_length] at hv
        subst hv
        have HL := Lib.hid (netOuts_length ls x t)
        have hne : (Value.slice av (t + 1) cv).ownBlock ≠ some w.heap.size := fun e => by have := (hown.base_le _ e).1; omega
        have HG := Lib.hid hg0
        clear hg0
        have BX := BX
        have BXc := BX.cell
        have BXf := BX.thawed
        have BXz := BX.lt
        have BXk := lt_add BXz
        by_cases hlt : t < n
        · obtain rfl := h.ptr (by omega)
          have hbs : b < w.heap.size := h.lt (by omega)
          obtain ⟨a4, n4, k4, b4, o4, a5, n5, k5, b5, o5, c0, c1, c2, c3, c4, c5, c6, x4, x5⟩ := lay_cells (h.keep hbr) hlt
          have M7 : Cells7 wr b (o + t * 7) _ _ _ _ _ _ _ := ⟨c0, c1, c2, c3, c4, c5, c6⟩
          clear c0 c1 c2 c3 c4 c5 c6
          have hi2 : (t : Int) < (n : Int) := by omega
          have hi3 : (0 : Int) ≤ (t : Int) := by omega
          by_cases hff : (lx ls t).goFault (netTo ls x t) = 0
          · have HFF := Lib.hid hff
            clear hff
            go_wp2_with fail
            go_region_held3 (fun w' => w'.cell? ⟨b, o + t * 7, none⟩ = some (.int .i64 (lx ls t).kind) ∧ w'.cell? ⟨b, o + t * 7 + 1, none⟩ = some (.int .i64 (lx ls t).W.rows) ∧ w'.cell? ⟨b, o + t * 7 + 2, none⟩ = some (.int .i64 (lx ls t).W.cols) ∧ w'.cell? ⟨b, o + t * 7 + 3, none⟩ = some (.slice a4 n4 k4) ∧ w'.cell? ⟨b, o + t * 7 + 4, none⟩ = some (.int .i64 (lx ls t).B.rows) ∧ w'.cell? ⟨b, o + t * 7 + 5, none⟩ = some (.int .i64 (lx ls t).B.cols) ∧ w'.cell? ⟨b, o + t * 7 + 6, none⟩ = some (.slice a5 n5 k5) ∧ w'.cell? ⟨w.heap.size, 0, none⟩ = some (.int .i64 (netTo ls x t).rows) ∧ w'.cell? ⟨w.heap.size, 1, none⟩ = some (.int .i64 (netTo ls x t).cols) ∧ w'.cell? ⟨w.heap.size, 2, none⟩ = some (.slice ac nc kc)) (exact cells7b (t := 25) (by repeat (first | (with_reducible first | exact M7 | refine Cells7.alloc ?_ _ | refine Cells7.drewN ?_ _ | refine Cells7.drew ?_ | (refine Cells7.far ?_ ?_ _; rotate_left 1; (first | (dsimp only; omega) | omega | (simp; omega) | simp)) | refine Cells7.keep ?_ hb7) | exact M7)) (by first | exact BX.k1 hb7 | exact BX.k)) ((go_at_call 34; go_must (refine (refGoFault_any (lx ls t) (netTo ls x t) _ _ _ ⟨_, _, _, _, _, _, _, _, _, _, rfl, (show IntsAt _ a4 n4 k4 b4 o4 (lx ls t).W.cells from x4.k), (show IntsAt _ a5 n5 k5 b5 o5 (lx ls t).B.cells from x5.k)⟩ (MatAt.mk (show IntsAt _ ac nc kc bc oc (netTo ls x t).cells from xc.k))).mono ?_); go_must (rw [HFF.out]); go_must (rintro e w7 ⟨rfl, hb7⟩)))
            have hbA : Below wr.heap.size wr w7 := (Below.x1 hb7)
            replace M7 := M7.keep hbA
            have hkw7 : Below wr.heap.size wr w7 := (Below.x1 hbA)
            replace BX := BX.keep hkw7
            replace BXc := BX.cell
            replace BXf := BX.thawed
            replace BXz := BX.lt
            replace BXk := lt_add BXz
            replace x4 := x4.keep hkw7
            replace x5 := x5.keep hkw7
            replace xc := xc.keep hkw7
            replace hown := hown.keep hkw7
            go_wp2_with fail
            have d0 := M7.c0
            have d1 := M7.c1
            have d2 := M7.c2
            have d3 := M7.c3
            have d4 := M7.c4
            have d5 := M7.c5
            have d6 := M7.c6
            go_region_law ((go_simp; go_at_call 35; refine (refGoOf_any (lx ls t) (netTo ls x t) _ _ _ ⟨_, _, _, _, _, _, _, _, _, _, rfl, (show IntsAt _ a4 n4 k4 b4 o4 (lx ls t).W.cells from x4.k), (show IntsAt _ a5 n5 k5 b5 o5 (lx ls t).B.cells from x5.k)⟩ (MatAt.mk (show IntsAt _ ac nc kc bc oc (netTo ls x t).cells from xc.k)) HFF.out).mono ?_; rintro e w8 ⟨v8, rfl, ⟨a8, n8, k8, b8, o8, rfl, hn8, x8⟩, hb8⟩; have B8 : Box w8 w.heap.size [.int .i64 (netTo ls x t).rows, .int .i64 (netTo ls x t).cols, .slice ac nc kc] 25 := Box.keep BX.k hb8; have B8c := B8.cell; have B8f := B8.thawed; have B8z := B8.lt))
            all_goals (
              have hbB : Below w7.heap.size w7 w8 := (Below.x1 hb8)
              have l8 : 0 < n8 → w7.heap.size ≤ b8 := fun h => by have := hn8 h; simpa using this
              have hz7 : wr.heap.size ≤ w7.heap.size := hbA.size
              have hz8 : w7.heap.size ≤ w8.heap.size := hbB.size
              have hrow8 : ∀ q, (Value.slice av (t + 1) cv).ownBlock = some q → w1.heap.size ≤ q ∧ q < w7.heap.size := fun q hq => hown.base_le q hq
              have hbw8 : Below w.heap.size w w8 := (by repeat (first | (with_reducible first | exact Below.refl _ _ | exact hbr | refine Below.al ?_ _ | refine Below.drN ?_ _ | refine Below.drew ?_ | refine Below.sx ?_ _ | refine Below.go ?_ hbB | refine Below.go ?_ hbA) | exact Below.refl _ _ | exact hbr))
              obtain ⟨wq, hq, B9, x9, hownq, hbq, hzq⟩ : ∃ wq, ((w8.setCell ⟨w.heap.size, 0, none⟩ (.int .i64 ((lx ls t).go (netTo ls x t)).rows)).setCell ⟨w.heap.size, 1, none⟩ (.int .i64 ((lx ls t).go (netTo ls x t)).cols)).setCell ⟨w.heap.size, 2, none⟩ (.slice a8 n8 k8) = wq ∧
                  Box wq w.heap.size [.int .i64 (netTo ls x (t + 1)).rows, .int .i64 (netTo ls x (t + 1)).cols, .slice a8 n8 k8] 25 ∧ IntsAt wq a8 n8 k8 b8 o8 (netTo ls x (t + 1)).cells ∧ OwnRow Form.mat 25 wq w1.heap.size (fun b => b ≠ w.heap.size) (.slice av (t + 1) cv) (netOuts ls x t) ∧ Below w.heap.size w wq ∧ w8.heap.size ≤ wq.heap.size :=
                ⟨_, rfl, ((B8.set 0 _).set 1 _).set 2 _, (by repeat (first | (with_reducible first | exact x8 | refine IntsAt.alloc ?_ _ | refine IntsAt.drewN ?_ _ | refine IntsAt.drew ?_ | (refine IntsAt.set ?_ ?_ _; rotate_left 1; (intro h0; have hq0 := l8 h0; first | (dsimp only; omega) | omega | (simp; omega) | simp))) | exact x8)), (((hown.keep hbB).set hne (fun h => h rfl) _).set hne (fun h => h rfl) _).set hne (fun h => h rfl) _, (Below.y0 hbw8), by simp [World.setCell]⟩
              have B9 := B9
              have B9c := B9.cell
              have B9f := B9.thawed
              have B9z := B9.lt
              have B9k := lt_add B9z
              clear B8 B8c B8f B8z BX BXc BXf BXz BXk d0 d1 d2 d3 d4 d5 d6 M7 x4 x5 xc hi2 hi3
              go_wp2_with (at_builtin; refine wpList_push rfl (.tmp 40) (.tmp 42) 32 rfl Form.mat w1.heap.size (fun b => b ≠ w.heap.size) 25 i0 (.agg #[.int .i64 0, .int .i64 0, .slice none 0 0]) 40 Tryz.underlying32 hi hz0 hz1 hz2 rfl (by decide) (.slice av (t + 1) cv) (netOuts ls x t) rfl (hownq.keep ((Below.refl wq.heap.size wq).alloc (Nat.le_refl _) _)) wq.heap.size 1 [.int .i64 (netTo ls x (t + 1)).rows, .int .i64 (netTo ls x (t + 1)).cols, .slice a8 n8 k8] 25 (netTo ls x (t + 1)) rfl (Box.new _ _ _) ⟨a8, n8, k8, b8, o8, rfl, fun h => ⟨by have := l8 h; omega, fun e => by have := (hrow8 _ e).2; have := l8 h; omega⟩, x9.alloc _⟩ (by rw [HL.out]; omega) (by rw [HL.out]; unfold maxLen; omega) (by simp; omega) _ rfl ?_)
              intro g cap w' hown' hgrow hgv hgl
              have hbn : Below w.heap.size w w' := Below.grown (Below.al hbq _) hgrow (by simp; omega) (fun q hq => by have := (hrow8 q hq).1; omega)
              have B10 := (B9.alloc (.cells #[.int .i64 (netTo ls x (t + 1)).rows, .int .i64 (netTo ls x (t + 1)).cols, .slice a8 n8 k8] 25)).grown hgrow (fun e => hne e.symm)
              have x10 := (x9.alloc (.cells #[.int .i64 (netTo ls x (t + 1)).rows, .int .i64 (netTo ls x (t + 1)).cols, .slice a8 n8 k8] 25)).grown hgrow (fun h e => by have := (hrow8 _ e.symm).2; have := l8 h; omega)
              have hzn : w1.heap.size ≤ w'.heap.size := by have := hgrow.size; simp at this; omega
              go_wp2
              go_roundw
              case rel => exact ⟨t + 1, by omega, by go_num, by rw [goTo_succ HG.out]; exact HFF.out, by rw [netOuts_succ]; exact hown', hbn, hzn, a8, n8, k8, b8, o8, B10, x10, fun h => by have := l8 h; omega⟩
              case measure => simp [intOf]; omega)
          · have HFF := Lib.hid hff
            have q1 : ((lx ls t).goFault (netTo ls x t) != 0) = true := by simp [hff]
            have hs : goTo ls x (t + 1) = (lx ls t).goFault (netTo ls x t) := goTo_succ HG.out
            have HST : Hid (goTo ls x n = (lx ls t).goFault (netTo ls x t)) := Lib.hid (by rw [goTo_stop (show t + 1 ≤ n by omega) (by rw [hs]; exact hff), hs])
            clear hff hs
            go_wp2_with fail
            go_region_held3 (fun w' => w'.cell? ⟨b, o + t * 7, none⟩ = some (.int .i64 (lx ls t).kind) ∧ w'.cell? ⟨b, o + t * 7 + 1, none⟩ = some (.int .i64 (lx ls t).W.rows) ∧ w'.cell? ⟨b, o + t * 7 + 2, none⟩ = some (.int .i64 (lx ls t).W.cols) ∧ w'.cell? ⟨b, o + t * 7 + 3, none⟩ = some (.slice a4 n4 k4) ∧ w'.cell? ⟨b, o + t * 7 + 4, none⟩ = some (.int .i64 (lx ls t).B.rows) ∧ w'.cell? ⟨b, o + t * 7 + 5, none⟩ = some (.int .i64 (lx ls t).B.cols) ∧ w'.cell? ⟨b, o + t * 7 + 6, none⟩ = some (.slice a5 n5 k5) ∧ w'.cell? ⟨w.heap.size, 0, none⟩ = some (.int .i64 (netTo ls x t).rows) ∧ w'.cell? ⟨w.heap.size, 1, none⟩ = some (.int .i64 (netTo ls x t).cols) ∧ w'.cell? ⟨w.heap.size, 2, none⟩ = some (.slice ac nc kc)) (exact cells7b (t := 25) (by repeat (first | (with_reducible first | exact M7 | refine Cells7.alloc ?_ _ | refine Cells7.drewN ?_ _ | refine Cells7.drew ?_ | (refine Cells7.far ?_ ?_ _; rotate_left 1; (first | (dsimp only; omega) | omega | (simp; omega) | simp)) | refine Cells7.keep ?_ hb7) | exact M7)) (by first | exact BX.k1 hb7 | exact BX.k)) ((go_at_call 34; go_must (refine (refGoFault_any (lx ls t) (netTo ls x t) _ _ _ ⟨_, _, _, _, _, _, _, _, _, _, rfl, (show IntsAt _ a4 n4 k4 b4 o4 (lx ls t).W.cells from x4.k), (show IntsAt _ a5 n5 k5 b5 o5 (lx ls t).B.cells from x5.k)⟩ (MatAt.mk (show IntsAt _ ac nc kc bc oc (netTo ls x t).cells from xc.k))).mono ?_); go_must (rintro e w7 ⟨rfl, hb7⟩)))
            have hbe : Below w.heap.size w w7 := (Below.y1 hb7 hbr)
            go_wp2
            refine bodyPost_ret (v := .tuple #[.slice none 0 0, .int .i64 ((lx ls t).goFault (netTo ls x t))]) (by simp [results, Tryz.results7, go_sem]) rfl ⟨.slice none 0 0, ?_, hbe, ?_, ?_⟩
            · rw [HST.out]
            · exact fun h => absurd h (by rw [HST.out]; exact HFF.out)
            · exact fun _ => rfl
        · obtain rfl : t = n := by omega
          obtain ⟨av', cv', b', hv, hb', hrow⟩ := hown.row (G := anyB) (fun b h _ => trivial) (fun b h => trivial)
          rw [netOuts_length] at hv hb' hrow
          have HR := Lib.hid (show ∃ a' k' b', Value.slice av (t + 1) cv = .slice a' (t + 1) k' ∧ RowAt Form.mat wr anyB a' (t + 1) k' b' 0 (netOuts ls x t) from ⟨_, _, _, hv, hrow⟩)
          clear hv hown hrow BX BXc BXf BXz BXk xc
          go_wp2
          refine bodyPost_ret (v := .tuple #[.slice av (t + 1) cv, .int .i64 0]) (by simp [results, Tryz.results7, go_sem]) rfl ⟨.slice av (t + 1) cv, ?_, hbr, ?_, ?_⟩
          · rw [HG.out]
          · exact fun _ => HR.out
          · exact fun h => absurd HG.out h
    · have hq : netGoFault ls x = x.fault := by unfold netGoFault; rw [if_neg (by omega), if_pos hf]
      have HF := Lib.hid hf
      have q1 : (x.fault != 0) = true := by simp [hf]
      rw [hq]
      clear hf hq
      go_enter Tryz.func7, Tryz.ntmps7
      go_wp2_with fail
      refine (refMatFault_any x _ _ (MatAt.mk (x0.alloc _))).mono ?_
      rintro e w1 ⟨rfl, hb1⟩
      go_wp2
      refine bodyPost_ret (v := .tuple #[.slice none 0 0, .int .i64 x.fault]) (by simp [results, Tryz.results7, go_sem]) rfl ⟨.slice none 0 0, ?_, (Below.x1 hb1), ?_, ?_⟩
      · rfl
      · exact fun h => absurd h HF.out
      · exact fun _ => rfl
end
end Go.Proofs.YtgknjikjjklaiaaGreatDoor
end
