/- Texts joined: Back3. -/
import Derived.Test.YtgknjikjjklaiaaJ38
section
set_option linter.unusedVariables false
set_option linter.unusedSimpArgs false
set_option linter.unusedSectionVars false
namespace Go.Proofs.Ytgknjikjjklaiaa
open Go.RowKit Go.Shelf Gal
set_option maxRecDepth 100000
set_option maxHeartbeats 2000000
theorem netBack_any (ls : List Lay) (ss : List Mat) (g : Mat) (F G : Nat → Prop) (a0 a1 : Option Addr) (n n1 k0 k1 b0 b1 o0 o1 : Nat) (vg : Value) (w : World) (h0 : RowAt Form.lay w F a0 n k0 b0 o0 ls) (h1 : RowAt Form.mat w G a1 n1 k1 b1 o1 ss) (hg : MatAt w vg g)
  (hgl : g.cells.length * 8 ≤ 140737488355328) : Calls Try.prog 11 #[.slice a0 n k0, .slice a1 n1 k1, vg] w (BackEnd w ls ss g n (netBackFault ls ss g)) := by
 have hl0 := h0.len
 have hl1 := h1.len
 have hm0 := h0.max
 have hm1 := h1.max
 unfold maxLen at hm0 hm1
 by_cases h12 : 12 < n
 ·have hF : netBackFault ls ss g = 3 := by unfold netBackFault; rw [if_pos (by omega)]
  rw [hF]
  obtain ⟨ag, ng, kg, bg, og, rfl, xg⟩ := hg
  have e1 : ((n : Int) > 12) = True := by simp; omega
  clear hF
  go_enter Try.func11, Try.ntmps11
  go_wp2
  exact bodyPost_ret (v := .tuple #[.agg #[.int .i64 0, .int .i64 0, .slice none 0 0], .slice none 0 0, .iface 56 (.int .i64 3)]) (by simp [results, Try.results11, go_sem]) rfl ⟨_, _, rfl, Below.x0, fun h => absurd h (by decide), fun _ => ⟨rfl, rfl⟩⟩
 ·by_cases hn1 : n1 = n + 1
  ·by_cases hz : n = 0 ∧ g.fault ≠ 0
   ·obtain ⟨rfl, hf⟩ := hz
    have hF : netBackFault ls ss g = g.fault := by unfold netBackFault; rw [if_neg (by omega), if_neg (by omega), if_pos hl0]
    rw [hF]
    obtain ⟨ag, ng, kg, bg, og, rfl, xg⟩ := hg
    have HE := Lib.hid (show errV (matFault g.rows g.cols g.cells) = .iface 56 (.int .i64 g.fault) from errV_err hf)
    have HF := Lib.hid hf
    obtain rfl : n1 = 1 := by omega
    clear hF hf hl0 hl1 hm0 hm1 h12 hgl hn1
    go_enter Try.func11, Try.ntmps11
    go_wp2_with fail
    refine (matCheck_any g.rows g.cols ag ng kg bg og g.cells _ xg.k).mono ?_
    rw [HE.out]
    rintro e w1 ⟨rfl, hb1⟩
    have P6 := ((show Box _ (w.heap.size + 1 + 1) [.int .i64 0, .int .i64 0, .slice none 0 0] 25 from Box.x0)).keep hb1
    have P6c := P6.cell
    have P6f := P6.thawed
    have P6z := P6.lt
    have P6k := lt_add P6z
    have P7 := ((show Box _ (w.heap.size + 1 + 1 + 1) [.slice none 0 0] 30 from Box.x0)).keep hb1
    have P7c := P7.cell
    have P7f := P7.thawed
    have P7z := P7.lt
    have P7k := lt_add P7z
    have P8 := ((show Box _ (w.heap.size + 1 + 1 + 1 + 1) [.nilIface] 27 from Box.x0)).keep hb1
    have P8c := P8.cell
    have P8f := P8.thawed
    have P8z := P8.lt
    have P8k := lt_add P8z
    have hbe : Below w.heap.size w w1 := (Below.x1 hb1)
    go_wp2
    exact bodyPost_ret (v := .tuple #[.agg #[.int .i64 0, .int .i64 0, .slice none 0 0], .slice none 0 0, .iface 56 (.int .i64 g.fault)]) (by simp [results, Try.results11, go_sem, P6c, P7c, P8c]) rfl ⟨_, _, by rw [errV_err HF.out], (Below.y0 hbe), fun h => absurd h HF.out, fun _ => ⟨rfl, rfl⟩⟩
   ·have hF : netBackFault ls ss g = bF ls ss g n n := by
     unfold netBackFault
     rw [if_neg (by omega), if_neg (by omega)]
     by_cases h : n = 0
     ·rw [if_pos (by omega)]
      subst h
      exact Classical.not_not.1 (fun h => hz ⟨rfl, h⟩)
     ·rw [if_neg (by omega), hl0]
    rw [hF]
    exact netBack_walk ls ss g F G a0 a1 n n1 k0 k1 b0 b1 o0 o1 vg w h0 h1 hg hgl (by omega) hn1 (fun h => Classical.not_not.1 (fun h' => hz ⟨h, h'⟩))
  ·have hF : netBackFault ls ss g = 2 := by unfold netBackFault; rw [if_neg (by omega), if_pos (by omega)]
   rw [hF]
   obtain ⟨ag, ng, kg, bg, og, rfl, xg⟩ := hg
   have e1 : ((n : Int) > 12) = False := by simp; omega
   have e2 : ((n1 : Int) != wrap64 ((n : Int) + 1)) = true := by simp [wrap64]; omega
   have e3 : ((n1 : Int) != (n : Int) + 1) = true := by simp; omega
   clear hF
   go_enter Try.func11, Try.ntmps11
   go_wp2
   exact bodyPost_ret (v := .tuple #[.agg #[.int .i64 0, .int .i64 0, .slice none 0 0], .slice none 0 0, .iface 56 (.int .i64 2)]) (by simp [results, Try.results11, go_sem]) rfl ⟨_, _, rfl, Below.x0, fun h => absurd h (by decide), fun _ => ⟨rfl, rfl⟩⟩
end Go.Proofs.Ytgknjikjjklaiaa
end
