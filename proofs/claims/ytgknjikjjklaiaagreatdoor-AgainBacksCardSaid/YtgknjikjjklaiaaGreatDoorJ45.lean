/- Texts joined: RBack3. -/
import Derived.Test.YtgknjikjjklaiaaGreatDoorJ44
section
set_option linter.unusedVariables false
set_option linter.unusedSimpArgs false
set_option linter.unusedSectionVars false
namespace Go.Proofs.YtgknjikjjklaiaaGreatDoor
open Go.RowKit Gal
set_option maxRecDepth 100000
set_option maxHeartbeats 4000000
theorem refNetBack_pos (k : Nat) : ∀ (ls : List Lay) (ss : List Mat) (g : Mat) (F G : Nat → Prop) (a0 a1 ag : Option Addr) (N n1 ng k0 k1 kg b0 b1 bg o0 o1 og : Nat) (w : World), N = k + 1 → N ≤ 12 → n1 = N + 1 → RowAt Form.lay w F a0 N k0 b0 o0 ls → RowAt Form.mat w G a1 n1 k1 b1 o1 ss → IntsAt w ag ng kg bg og g.cells →
  Calls Tryz.prog 10 #[.slice a0 N k0, .slice a1 n1 k1, .agg #[.int .i64 g.rows, .int .i64 g.cols, .slice ag ng kg]] w fun e w' => ∃ u v, e = .returned (.tuple #[u, v, .int .i64 (bF ls ss g N N)]) ∧ Below w.heap.size w w' ∧
   (bF ls ss g N N = 0 → MatApart w.heap.size w' u v (bM ls ss g N N) ∧ OwnRow Form.grd 84 w' w.heap.size (newB w.heap.size) v (bDs ls ss g N)) ∧ (bF ls ss g N N ≠ 0 → u = .agg #[.int .i64 0, .int .i64 0, .slice none 0 0] ∧ v = .slice none 0 0) := by
 induction k with
 | zero =>
  intro ls ss g F G a0 a1 ag N n1 ng k0 k1 kg b0 b1 bg o0 o1 og w hN h12 hn1 h0 h1 hg
  subst hN
  by_cases hf : (lx ls 0).backFault (mx ss 0) g = 0
  ·have hF : bF ls ss g (0 + 1) (0 + 1) = 0 := by rw [bF_one]; exact hf
   refine (refNetBack_one ls ss (lx ls 0) (mx ss 0) g F G a0 a1 ag 0 (0 + 1) n1 ng k0 k1 kg b0 b1 bg o0 o1 og w rfl h12 hn1 h0 h1 hg rfl rfl hf rfl).mono ?_
   rintro e w' ⟨u, v, rfl, hb, hu, hv⟩
   exact ⟨u, v, by rw [hF], hb, fun _ => ⟨hu, hv⟩, fun h => absurd hF h⟩
  ·have hF : bF ls ss g (0 + 1) (0 + 1) = (lx ls 0).backFault (mx ss 0) g := bF_one
   refine (refNetBack_bad ls ss (lx ls 0) (mx ss 0) g F G a0 a1 ag 0 (0 + 1) n1 ng k0 k1 kg b0 b1 bg o0 o1 og w rfl h12 hn1 h0 h1 hg rfl rfl hf).mono ?_
   rintro e w' ⟨rfl, hb⟩
   exact ⟨_, _, by rw [hF], hb, fun h => absurd (hF.symm.trans h) hf, fun _ => ⟨rfl, rfl⟩⟩
 | succ k ih =>
  intro ls ss g F G a0 a1 ag N n1 ng k0 k1 kg b0 b1 bg o0 o1 og w hN h12 hn1 h0 h1 hg
  subst hN
  by_cases hf : (lx ls (k + 1)).backFault (mx ss (k + 1)) g = 0
  ·have hf1 : bF ls ss g (k + 1 + 1) 1 = 0 := by rw [bF_one]; exact hf
   have hF := bF_take (ls := ls) (ss := ss) (g := g) (k := k + 1) hf1 (k + 1) (Nat.le_refl _)
   have hM := bM_take (ls := ls) (ss := ss) (g := g) (k := k + 1) (k + 1) (Nat.le_refl _)
   have hD := bDs_take (ls := ls) (ss := ss) (g := g) (k := k + 1)
   rw [bM_one] at hF hM hD
   refine (refNetBack_more ls ss (lx ls (k + 1)) (mx ss (k + 1)) g F G a0 a1 ag (k + 1) (k + 1 + 1) n1 ng k0 k1 kg b0 b1 bg o0 o1 og w rfl h12 hn1 h0 h1 hg rfl rfl (bF (ls.take (k + 1)) (ss.take (k + 1 + 1)) ((lx ls (k + 1)).back (mx ss (k + 1)) g) (k + 1) (k + 1)) (bM (ls.take (k + 1)) (ss.take (k + 1 + 1)) ((lx ls (k + 1)).back (mx ss (k + 1)) g) (k + 1) (k + 1)) (bDs (ls.take (k + 1)) (ss.take (k + 1 + 1)) ((lx ls (k + 1)).back (mx ss (k + 1)) g) (k + 1)) (by rw [bDs_length]; omega) hf (by omega) ?_).mono ?_
   ·intro vg w' hb hv
    obtain ⟨ag', ng', kg', bg', og', rfl, x⟩ := hv
    exact ih (ls.take (k + 1)) (ss.take (k + 1 + 1)) _ F G a0 a1 ag' (k + 1) (k + 1 + 1) ng' k0 k1 kg' b0 b1 bg' o0 o1 og' w' rfl (by omega) rfl ((h0.keep hb).take (by omega)) ((h1.keep hb).take (by omega)) x
   ·rintro e w' ⟨u, v, rfl, hb, h2, h3⟩
    rw [hF] at h2 h3
    rw [hM] at h2
    refine ⟨u, v, by rw [hF], hb, fun h => ?_, h3⟩
    rw [hD]
    exact h2 h
  ·have hF : bF ls ss g (k + 1 + 1) (k + 1 + 1) = (lx ls (k + 1)).backFault (mx ss (k + 1)) g := by
    rw [bF_stays (k := 1) (by omega) (by rw [bF_one]; exact hf), bF_one]
   refine (refNetBack_bad ls ss (lx ls (k + 1)) (mx ss (k + 1)) g F G a0 a1 ag (k + 1) (k + 1 + 1) n1 ng k0 k1 kg b0 b1 bg o0 o1 og w rfl h12 hn1 h0 h1 hg rfl rfl hf).mono ?_
   rintro e w' ⟨rfl, hb⟩
   exact ⟨_, _, by rw [hF], hb, fun h => absurd (hF.symm.trans h) hf, fun _ => ⟨rfl, rfl⟩⟩
def RefBackEnd (w : World) (ls : List Lay) (ss : List Mat) (g : Mat) (n : Nat) (e : Ending) (w' : World) : Prop :=
 ∃ u v, e = .returned (.tuple #[u, v, .int .i64 (netBackFault ls ss g)]) ∧ Below w.heap.size w w' ∧ (netBackFault ls ss g = 0 → MatAt w' u (bM ls ss g n n) ∧ ∃ a k b, v = .slice a n k ∧ RowAt Form.grd w' anyB a n k b 0 (bDs ls ss g n)) ∧
  (netBackFault ls ss g ≠ 0 → u = .agg #[.int .i64 0, .int .i64 0, .slice none 0 0] ∧ v = .slice none 0 0)
theorem refNetBack_any (ls : List Lay) (ss : List Mat) (g : Mat) (F G : Nat → Prop) (a0 a1 : Option Addr) (n n1 k0 k1 b0 b1 o0 o1 : Nat) (vg : Value) (w : World) (h0 : RowAt Form.lay w F a0 n k0 b0 o0 ls) (h1 : RowAt Form.mat w G a1 n1 k1 b1 o1 ss) (hg : MatAt w vg g) :
  Calls Tryz.prog 10 #[.slice a0 n k0, .slice a1 n1 k1, vg] w (RefBackEnd w ls ss g n) := by
 have hl0 := h0.len
 have hl1 := h1.len
 have hm0 := h0.max
 have hm1 := h1.max
 unfold maxLen at hm0 hm1
 obtain ⟨ag, ng, kg, bg, og, rfl, xg⟩ := hg
 by_cases h12 : 12 < n
 ·have hF : netBackFault ls ss g = 3 := by unfold netBackFault; rw [if_pos (by omega)]
  have e1 : ((n : Int) > 12) = True := by simp; omega
  unfold RefBackEnd
  rw [hF]
  clear hF
  go_enter Tryz.func10, Tryz.ntmps10
  go_wp2
  exact bodyPost_ret (v := .tuple #[.agg #[.int .i64 0, .int .i64 0, .slice none 0 0], .slice none 0 0, .int .i64 3]) (by simp [results, Tryz.results10, go_sem]) rfl ⟨_, _, rfl, Below.x0, fun h => absurd h (by decide), fun _ => ⟨rfl, rfl⟩⟩
 ·by_cases hn1 : n1 = n + 1
  ·by_cases hz : n = 0
   ·subst hz
    have hF : netBackFault ls ss g = g.fault := by unfold netBackFault; rw [if_neg (by omega), if_neg (by omega), if_pos hl0]
    unfold RefBackEnd
    rw [hF]
    obtain rfl : n1 = 1 := by omega
    clear hF hl0 hl1 hm0 hm1 h12 hn1
    by_cases hf : g.fault = 0
    ·have HF := Lib.hid hf
     clear hf
     go_enter Tryz.func10, Tryz.ntmps10
     go_wp2_with fail
     refine (refMatFault_any g _ _ (MatAt.mk (show IntsAt _ ag ng kg bg og g.cells from xg.k))).mono ?_
     rw [HF.out]
     rintro e w1 ⟨rfl, hb1⟩
     have B5 := ((show Box _ w.heap.size [.int .i64 g.rows, .int .i64 g.cols, .slice ag ng kg] 25 from Box.x0)).keep hb1
     have B5c := B5.cell
     have B5f := B5.thawed
     have B5z := B5.lt
     have B5k := lt_add B5z
     have B6 := ((show Box _ (w.heap.size + 1) [.int .i64 0, .int .i64 0, .slice none 0 0] 25 from Box.x0)).keep hb1
     have B6c := B6.cell
     have B6f := B6.thawed
     have B6z := B6.lt
     have B6k := lt_add B6z
     have hbe : Below w.heap.size w w1 := (Below.x1 hb1)
     have x1 : IntsAt w1 ag ng kg bg og g.cells := xg.keep hbe
     have hlg := xg.lt
     go_wp2
     exact bodyPost_ret (v := .tuple #[.agg #[.int .i64 g.rows, .int .i64 g.cols, .slice ag ng kg], .slice none 0 0, .int .i64 0]) (run_of_box (b := w.heap.size + 1) (cs := [.int .i64 g.rows, .int .i64 g.cols, .slice ag ng kg]) (t := 25) (by repeat (first | (with_reducible first | exact B6 | refine Box.alloc ?_ _ | refine Box.drewN ?_ _ | refine Box.drew ?_ | refine Box.set6z ?_ _ _ _ _ _ _ | refine Box.set3z ?_ _ _ _ | refine Box.fx ?_ _) | exact B6)) (fun Z => by simp [results, Tryz.results10, go_sem, Z.cell])) rfl ⟨_, _, by rw [HF.out], (Below.y0 hbe), fun _ => ⟨MatAt.mk (show IntsAt _ ag ng kg bg og g.cells from (by repeat (first | (with_reducible first | exact x1 | refine IntsAt.alloc ?_ _ | refine IntsAt.drewN ?_ _ | refine IntsAt.drew ?_ | (refine IntsAt.set ?_ ?_ _; rotate_left 1; (intro h0; have hq0 := hlg h0; first | (dsimp only; omega) | omega | (simp; omega) | simp))) | exact x1))), none, 0, 0, rfl, RowAt.nil _ _ _⟩, fun h => absurd HF.out h⟩
    ·have HF := Lib.hid hf
     have e9 : (g.fault != 0) = true := by simp [hf]
     clear hf
     go_enter Tryz.func10, Tryz.ntmps10
     go_wp2_with fail
     refine (refMatFault_any g _ _ (MatAt.mk (show IntsAt _ ag ng kg bg og g.cells from xg.k))).mono ?_
     rintro e w1 ⟨rfl, hb1⟩
     have B6 := ((show Box _ (w.heap.size + 1) [.int .i64 0, .int .i64 0, .slice none 0 0] 25 from Box.x0)).keep hb1
     have B6c := B6.cell
     have B6f := B6.thawed
     have B6z := B6.lt
     have B6k := lt_add B6z
     have hbe : Below w.heap.size w w1 := (Below.x1 hb1)
     go_wp2
     exact bodyPost_ret (v := .tuple #[.agg #[.int .i64 0, .int .i64 0, .slice none 0 0], .slice none 0 0, .int .i64 g.fault]) (by simp [results, Tryz.results10, go_sem, B6c]) rfl ⟨_, _, rfl, (Below.y0 hbe), fun h => absurd h HF.out, fun _ => ⟨rfl, rfl⟩⟩
   ·obtain ⟨k, rfl⟩ : ∃ k, n = k + 1 := ⟨n - 1, by omega⟩
    have hF : netBackFault ls ss g = bF ls ss g (k + 1) (k + 1) := by
     unfold netBackFault
     rw [if_neg (by omega), if_neg (by omega), if_neg (by omega), hl0]
    refine (refNetBack_pos k ls ss g F G a0 a1 ag (k + 1) n1 ng k0 k1 kg b0 b1 bg o0 o1 og w rfl (by omega) hn1 h0 h1 xg).mono ?_
    rintro e w' ⟨u, v, rfl, hb, h2, h3⟩
    refine ⟨u, v, by rw [hF], hb, fun h => ?_, fun h => h3 (by rw [← hF]; exact h)⟩
    obtain ⟨⟨a, m, c, b, o, rfl, _, x⟩, hown⟩ := h2 (by rw [← hF]; exact h)
    obtain ⟨av, cv, b', hv, hb', hrow⟩ := hown.row (G := anyB) (fun b h _ => trivial) (fun b h => trivial)
    rw [bDs_length] at hv hrow
    exact ⟨MatAt.mk x, av, cv, b', hv, hrow⟩
  ·have hF : netBackFault ls ss g = 2 := by unfold netBackFault; rw [if_neg (by omega), if_pos (by omega)]
   have e1 : ((n : Int) > 12) = False := by simp; omega
   have e2 : ((n1 : Int) != wrap64 ((n : Int) + 1)) = true := by simp [wrap64]; omega
   have e3 : ((n1 : Int) != (n : Int) + 1) = true := by simp; omega
   unfold RefBackEnd
   rw [hF]
   clear hF
   go_enter Tryz.func10, Tryz.ntmps10
   go_wp2
   exact bodyPost_ret (v := .tuple #[.agg #[.int .i64 0, .int .i64 0, .slice none 0 0], .slice none 0 0, .int .i64 2]) (by simp [results, Tryz.results10, go_sem]) rfl ⟨_, _, rfl, Below.x0, fun h => absurd h (by decide), fun _ => ⟨rfl, rfl⟩⟩
end Go.Proofs.YtgknjikjjklaiaaGreatDoor
end
