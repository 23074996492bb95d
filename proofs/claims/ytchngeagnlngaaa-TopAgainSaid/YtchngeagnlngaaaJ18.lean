/- Texts joined: Lay7, Grads, Net1. -/
import Derived.Test.YtchngeagnlngaaaJ17
import Derived.BigRegion
import Derived.Test.YtchngeagnlngaaaJ10
import Derived.Test.YtchngeagnlngaaaJ08
import Derived.Test.YtchngeagnlngaaaJ13
import Derived.Test.YtchngeagnlngaaaJ04
import Derived.Test.YtchngeagnlngaaaJ03
import Derived.Deep.RegionHeld3
import Derived.Test.YtchngeagnlngaaaJ07
import Derived.Test.YtchngeagnlngaaaJ14
section
set_option linter.unusedVariables false
set_option linter.unusedSimpArgs false
namespace Go.Proofs.Ytchngeagnlngaaa
open Go.RowKit Gal
set_option maxRecDepth 100000
set_option maxHeartbeats 2000000
def GrdNew (base : Nat) (w : World) (v : Value) (d : Grd) : Prop := ∃ a n cap b o a' n' cap' b' o', v = .agg #[.int .i64 d.W.rows, .int .i64 d.W.cols, .slice a n cap, .int .i64 d.B.rows, .int .i64 d.B.cols, .slice a' n' cap'] ∧
 (0 < n → base ≤ b) ∧ IntsAt w a n cap b o d.W.cells ∧ (0 < n' → base ≤ b') ∧ IntsAt w a' n' cap' b' o' d.B.cells
theorem noInts (w : World) : IntsAt w none 0 0 0 0 [] := ⟨rfl, Nat.le_refl _, Nat.zero_le _, fun h => absurd h (Nat.lt_irrefl _), fun h => absurd h (Nat.lt_irrefl _), fun i hi => absurd hi (Nat.not_lt_zero _)⟩
theorem noGrd (base : Nat) (w : World) : GrdNew base w (.agg #[.int .i64 0, .int .i64 0, .slice none 0 0, .int .i64 0, .int .i64 0, .slice none 0 0]) Grd.none :=
 ⟨none, 0, 0, 0, 0, none, 0, 0, 0, 0, rfl, fun h => absurd h (Nat.lt_irrefl _), noInts w, fun h => absurd h (Nat.lt_irrefl _), noInts w⟩
structure Backs (l : Lay) (x g : Mat) : Prop where
 goes : Goes l x
 mat : g.fault = 0
 rows : g.rows = x.rows
 cols : g.cols = l.wide x.cols
 small : l.kind = 1 → x.rows ≤ 12
theorem cf_reluB (vs : Array Value) (W : World) : (callFunc 151 vs).run Try.prog W = .ok (.enter 151 vs) W := by kernel_rfl
theorem cf_shiftB (vs : Array Value) (W : World) : (callFunc 162 vs).run Try.prog W = .ok (.enter 162 vs) W := by kernel_rfl
theorem reluBack_any (p q : Nat) (r c r' c' : Int) (a a' : Option Addr) (n n' k0 k1 b o b' o' : Nat) (xs gs : List Int) (w : World)
  (hp : Box w p [.int .i64 r, .int .i64 c, .slice a n k0] 28) (hq : Box w q [.int .i64 r', .int .i64 c', .slice a' n' k1] 28) (hx : IntsAt w a n k0 b o xs) (hy : IntsAt w a' n' k1 b' o' gs) (i : Nat) (hi : i < n) (hi' : i < n') (hi2 : i ≤ 1000000) :
  Calls Try.prog 151 #[.int .i64 i, .pointer (some ⟨p, 0, none⟩), .pointer (some ⟨q, 0, none⟩)] w fun e w' => e = .returned (.int .i64 (if 0 < ix xs i then ix gs i else 0)) ∧ ∃ n, w' = w.drewN n := by
 have p2 := hp.cell 2
 have q2 := hq.cell 2
 obtain rfl := hx.ptr (by omega)
 obtain rfl := hy.ptr (by omega)
 have ca := hx.cell _ hi
 have cb := hy.cell _ hi'
 by_cases h : 0 < ix xs i
 ·rw [if_pos h]
  go_enter Try.func151, Try.ntmps151
  go_wp2
  go_ret
  exact ⟨rfl, 0, rfl⟩
 ·rw [if_neg h]
  go_enter Try.func151, Try.ntmps151
  go_wp2
  go_ret
  exact ⟨rfl, 0, rfl⟩
theorem shiftBack_any (p : Nat) (r c : Int) (a : Option Addr) (n k0 b o : Nat) (xs : List Int) (w : World)
  (hp : Box w p [.int .i64 r, .int .i64 c, .slice a n k0] 28) (hx : IntsAt w a n k0 b o xs) (i : Nat) (hi : i < n) (hi2 : i ≤ 1000000) :
  Calls Try.prog 162 #[.int .i64 i, .pointer (some ⟨p, 0, none⟩)] w fun e w' => e = .returned (.int .i64 (ix xs i)) ∧ ∃ n, w' = w.drewN n := by
 have p2 := hp.cell 2
 obtain rfl := hx.ptr (by omega)
 have ca := hx.cell _ hi
 go_enter Try.func162, Try.ntmps162
 go_wp2
 go_ret
 exact ⟨rfl, 0, rfl⟩
theorem same_len {x g : Mat} (hx : x.fault = 0) (hg : g.fault = 0) (h1 : g.rows = x.rows) (h2 : g.cols = x.cols) : g.cells.length = x.cells.length ∧ x.cells.length ≤ 288 := by
 obtain ⟨R, K, e1, e2, hR, hK, hl, _⟩ := matFault_ok hx
 obtain ⟨R', K', e3, e4, _, _, hl', _⟩ := matFault_ok hg
 obtain rfl : R = R' := by omega
 obtain rfl : K = K' := by omega
 exact ⟨by omega, by have := Nat.mul_le_mul hR hK; omega⟩
theorem back_2 (W B x g : Mat) (a0 ag aw ab : Option Addr) (n0 k0 b0 o0 ng kg bg og nw kw nb kb : Nat) (w : World) (x0 : IntsAt w a0 n0 k0 b0 o0 x.cells) (xg : IntsAt w ag ng kg bg og g.cells) (hg : Backs ⟨2, W, B⟩ x g) :
  Calls Try.prog 148 #[.agg #[], .agg #[.int .i64 2, .int .i64 W.rows, .int .i64 W.cols, .slice aw nw kw, .int .i64 B.rows, .int .i64 B.cols, .slice ab nb kb], .agg #[.int .i64 x.rows, .int .i64 x.cols, .slice a0 n0 k0], .agg #[.int .i64 g.rows, .int .i64 g.cols, .slice ag ng kg]] w fun e w' =>
   ∃ v d, e = .returned (.tuple #[v, d]) ∧ MatNew w.heap.size w' v (Lay.back ⟨2, W, B⟩ x g) ∧ GrdNew w.heap.size w' d (Lay.grad ⟨2, W, B⟩ x g) ∧ Below w.heap.size w w' := by
 have hcol : g.cols = x.cols := by rw [hg.cols]; exact if_neg (by simp)
 obtain ⟨hgl, hx288⟩ := same_len hg.goes.mat hg.mat hg.rows hcol
 have hn0 := x0.len
 have hng := xg.len
 have hbk : Lay.back ⟨2, W, B⟩ x g = ⟨x.rows, x.cols, upto (fun k => if 0 < ix x.cells k then ix g.cells k else 0) n0⟩ := by
  unfold Lay.back
  rw [if_neg (by simp), if_pos rfl, hn0]
 have hgr : Lay.grad ⟨2, W, B⟩ x g = Grd.none := by
  unfold Lay.grad
  rw [if_neg (by simp), if_pos rfl]
 rw [hbk, hgr]
 have hnn : ng = n0 := by omega
 have hn288 : n0 ≤ 288 := by omega
 clear hbk hgr hcol hgl hx288 hn0 hng hg
 subst hnn
 go_enter Try.func148, Try.ntmps148
 go_wp2_with fail
 refine (each_any x.rows x.cols a0 ng k0 (by omega) 151 #[.pointer (some ⟨w.heap.size + 1 + 1, 0, none⟩), .pointer (some ⟨w.heap.size + 1 + 1 + 1, 0, none⟩)] (fun k => if 0 < ix x.cells k then ix g.cells k else 0) _ cf_reluB ?_).mono ?_
 ·intro i hi U hU
  exact reluBack_any _ _ _ _ _ _ _ _ _ _ _ _ _ _ _ _ x.cells g.cells U (((((Box.new' _ (w.heap.size + 1 + 1) _ _ (by simp)).alloc _).alloc _).alloc _).keep hU) ((((Box.new' _ (w.heap.size + 1 + 1 + 1) _ _ (by simp)).alloc _).alloc _).keep hU) ((x0.alloc _ |>.alloc _ |>.alloc _ |>.alloc _ |>.alloc _ |>.alloc _).keep hU) ((xg.alloc _ |>.alloc _ |>.alloc _ |>.alloc _ |>.alloc _ |>.alloc _).keep hU) i hi hi (by omega)
 ·rintro e w1 ⟨b1, rfl, hbb, hi1, hb1⟩
  have B4 := ((Box.new' _ (w.heap.size + 1 + 1 + 1 + 1) [.int .i64 0, .int .i64 0, .slice none 0 0] 28 (by simp)).alloc _).keep hb1
  have B4c := B4.cell
  have B4f := B4.thawed
  have B4z := B4.lt
  have B4k := lt_add B4z
  have B5 := (Box.new' _ (w.heap.size + 1 + 1 + 1 + 1 + 1) [.int .i64 0, .int .i64 0, .slice none 0 0, .int .i64 0, .int .i64 0, .slice none 0 0] 93 (by simp)).keep hb1
  have B5c := B5.cell
  have B5f := B5.thawed
  have B5z := B5.lt
  have B5k := lt_add B5z
  simp at hbb
  go_wp2
  refine bodyPost_ret (v := .tuple #[.agg #[.int .i64 x.rows, .int .i64 x.cols, .slice (some ⟨b1, 0, none⟩) ng ng], .agg #[.int .i64 0, .int .i64 0, .slice none 0 0, .int .i64 0, .int .i64 0, .slice none 0 0]]) ?_ rfl ⟨_, _, rfl, ?_, ?_, ?_⟩
  ·simp [results, Try.results148, go_sem, B4c, B5c]
  ·exact MatNew.mk (b := b1) (off := 0) (fun _ => by omega) hi1.k
  ·exact noGrd _ _
  ·exact (Below.x1 hb1)
end Go.Proofs.Ytchngeagnlngaaa
end
section
set_option linter.unusedVariables false
set_option linter.unusedSimpArgs false
namespace Gal
open Go Go.RowKit
theorem get_of_lt {α : Type} {xs : List α} {i : Nat} (h : i < xs.length) : ∃ x, xs[i]? = some x := ⟨xs[i], List.getElem?_eq_getElem h⟩
theorem row_one {α : Type} {f : Form α} {w : World} {F : Nat → Prop} {b : Nat} {cs : List Value} {T : TypeId} {x : α} (h : Box w b cs T) (hr : f.reads w F cs x) (hF : F b) : RowAt f w F (some ⟨b, 0, none⟩) 1 1 b 0 [x] := by
 refine ⟨rfl, Nat.le_refl _, by unfold maxLen; omega, fun _ => rfl, fun _ => h.lt, fun _ => hF, fun i y hy => ?_⟩
 cases i with
 | zero =>
  simp at hy
  subst hy
  exact ⟨cs, hr, fun j _ => by rw [Nat.zero_mul, Nat.add_zero, Nat.zero_add]; exact h.cell j⟩
 | succ i => simp at hy
theorem cell_keep {w w' : World} {a : Addr} {v : Value} (hb : Below w.heap.size w w') (h : w.cell? a = some v) : w'.cell? a = some v := (hb.cell (World.block_lt_of_cell? w _ h)).trans h
theorem cells6 {w : World} {v0 v1 v2 v3 v4 v5 : Value} {a b : Nat} {o p : Nat} (h0 : w.cell? ⟨a, o, none⟩ = some v0) (h1 : w.cell? ⟨a, o + 1, none⟩ = some v1) (h2 : w.cell? ⟨a, o + 2, none⟩ = some v2) (h3 : w.cell? ⟨b, p, none⟩ = some v3) (h4 : w.cell? ⟨b, p + 1, none⟩ = some v4) (h5 : w.cell? ⟨b, p + 2, none⟩ = some v5) :
  w.cell? ⟨a, o, none⟩ = some v0 ∧ w.cell? ⟨a, o + 1, none⟩ = some v1 ∧ w.cell? ⟨a, o + 2, none⟩ = some v2 ∧ w.cell? ⟨b, p, none⟩ = some v3 ∧ w.cell? ⟨b, p + 1, none⟩ = some v4 ∧ w.cell? ⟨b, p + 2, none⟩ = some v5 := ⟨h0, h1, h2, h3, h4, h5⟩
end Gal
namespace Go.Proofs.Ytchngeagnlngaaa
open Go.RowKit Gal
set_option maxRecDepth 100000 in
set_option maxHeartbeats 4000000 in
theorem grads_same (ds : List Grd) (F G : Nat → Prop) (a0 a1 : Option Addr) (n0 n1 k0 k1 b0 b1 o0 o1 : Nat) (w : World) (h0 : RowAt Form.grd w F a0 n0 k0 b0 o0 ds) (h1 : RowAt Form.grd w G a1 n1 k1 b1 o1 ds) :
  Calls Try.prog 40 #[.slice a0 n0 k0, .slice a1 n1 k1] w fun e w' => e = .returned (.bool true) ∧ Below w.heap.size w w' := by
 have m0 := h0.max
 unfold maxLen at m0
 have l0 := h0.len
 obtain rfl : n0 = n1 := by rw [← l0]; exact h1.len
 have hne : ((n0 : Int) != (n0 : Int)) = false := by simp
 go_enter Try.func40, Try.ntmps40
 go_wp2
 go_loopw [5] (fun i wr => ∃ k : Nat, k ≤ n0 ∧ i = .int .i64 k ∧ Below w.heap.size w wr) (fun i _ => n0 - (intOf i).toNat)
 case atStart => exact ⟨0, Nat.zero_le _, rfl, Below.refl _ _⟩
 case round =>
  obtain ⟨k, hk, rfl, hbr⟩ := hrel
  by_cases hlt : k < n0
  ·have hltI : (k : Int) < (n0 : Int) := by omega
   obtain rfl := h0.ptr (by omega)
   obtain rfl := h1.ptr (by omega)
   obtain ⟨d, hd⟩ := get_of_lt (xs := ds) (i := k) (by omega)
   obtain ⟨p1, p2, p3, p4, p5, p6, p7, p8, p9, p10, c0, c1, c2, c3, c4, c5, y0, y1⟩ := grd_cells (h0.keep hbr) hd
   obtain ⟨q1, q2, q3, q4, q5, q6, q7, q8, q9, q10, e0, e1, e2, e3, e4, e5, z0, z1⟩ := grd_cells (h1.keep hbr) hd
   go_wp2_with fail
   go_region_held3 (fun w' => w'.cell? ⟨b0, o0 + k * 6, none⟩ = some (.int .i64 d.W.rows) ∧ w'.cell? ⟨b0, o0 + k * 6 + 1, none⟩ = some (.int .i64 d.W.cols) ∧ w'.cell? ⟨b0, o0 + k * 6 + 2, none⟩ = some (.slice p1 p2 p3) ∧ w'.cell? ⟨b1, o1 + k * 6, none⟩ = some (.int .i64 d.W.rows) ∧ w'.cell? ⟨b1, o1 + k * 6 + 1, none⟩ = some (.int .i64 d.W.cols) ∧ w'.cell? ⟨b1, o1 + k * 6 + 2, none⟩ = some (.slice q1 q2 q3)) (first | exact cells6 (cell_keep hb1 c0) (cell_keep hb1 c1) (cell_keep hb1 c2) (cell_keep hb1 e0) (cell_keep hb1 e1) (cell_keep hb1 e2) | exact cells6 c0 c1 c2 e0 e1 e2) ((go_at_call 74; go_must (refine (matrices_sameM d.W _ _ _ (MatAt.mk (y0.drewN _)) (MatAt.mk (z0.drewN _))).mono ?_); go_must (rintro e w1 ⟨rfl, hb1⟩)))
   have fc3 := cell_keep hb1 c3
   have fc4 := cell_keep hb1 c4
   have fc5 := cell_keep hb1 c5
   have fe3 := cell_keep hb1 e3
   have fe4 := cell_keep hb1 e4
   have fe5 := cell_keep hb1 e5
   go_wp2_with fail
   go_region_held3 (fun w' => w'.cell? ⟨b0, o0 + k * 6 + 3, none⟩ = some (.int .i64 d.B.rows) ∧ w'.cell? ⟨b0, o0 + k * 6 + 4, none⟩ = some (.int .i64 d.B.cols) ∧ w'.cell? ⟨b0, o0 + k * 6 + 5, none⟩ = some (.slice p6 p7 p8) ∧ w'.cell? ⟨b1, o1 + k * 6 + 3, none⟩ = some (.int .i64 d.B.rows) ∧ w'.cell? ⟨b1, o1 + k * 6 + 4, none⟩ = some (.int .i64 d.B.cols) ∧ w'.cell? ⟨b1, o1 + k * 6 + 5, none⟩ = some (.slice q6 q7 q8)) (first | exact ⟨(cell_keep hb2 fc3) ,(cell_keep hb2 fc4) ,(cell_keep hb2 fc5) ,(cell_keep hb2 fe3) ,(cell_keep hb2 fe4) ,(cell_keep hb2 fe5)⟩ | exact ⟨fc3 ,fc4 ,fc5 ,fe3 ,fe4 ,fe5⟩) ((go_at_call 74; go_must (refine (matrices_sameM d.B _ _ _ (MatAt.mk (show IntsAt _ p6 p7 p8 p9 p10 d.B.cells from (by first | exact y1.k1 hb1 | exact y1.k))) (MatAt.mk (show IntsAt _ q6 q7 q8 q9 q10 d.B.cells from (by first | exact z1.k1 hb1 | exact z1.k)))).mono ?_); go_must (rintro e w2 ⟨rfl, hb2⟩)))
   have hbq : Below w.heap.size w w2 := (by repeat (first | (with_reducible first | exact Below.refl _ _ | exact hbr | refine Below.al ?_ _ | refine Below.drN ?_ _ | refine Below.drew ?_ | refine Below.sx ?_ _ | refine Below.go ?_ hb2 | refine Below.go ?_ hb1) | exact Below.refl _ _ | exact hbr))
   go_wp2
   go_roundw
   case rel => exact ⟨k + 1, by omega, by go_num, hbq⟩
   case measure => simp [intOf]; omega
  ·go_wp2
   go_ret
   exact ⟨rfl, hbr⟩
end Go.Proofs.Ytchngeagnlngaaa
end
section
set_option linter.unusedVariables false
set_option linter.unusedSimpArgs false
namespace Go.Proofs.Ytchngeagnlngaaa
open Go.RowKit Gal
set_option linter.unusedSectionVars false
set_option maxRecDepth 100000
set_option maxHeartbeats 4000000
section
variable (ls : List Lay) (F : Nat → Prop) (a : Option Addr) (n k b o : Nat) (i : Int) (w : World) (h : RowAt Form.lay w F a n k b o ls) (hi : -9223372036854775808 ≤ i ∧ i ≤ 9223372036854775807)
include h hi
theorem netCheck_any :
  Calls Try.prog 61 #[.slice a n k, .int .i64 i] w fun e w' => e = .returned (.tuple #[.int .i64 (okOr (netWideFault ls i) (netW ls i n)), errV (netWideFault ls i)]) ∧ Below w.heap.size w w'
 := by
 have hl := h.len
 have hm := h.max
 unfold maxLen at hm
 by_cases h12 : 12 < n
 ·have hf : netWideFault ls i = 3 := by unfold netWideFault; rw [if_pos (by omega)]
  rw [hf, okOr_bad (by omega), errV_err (by omega)]
  clear hf
  go_enter Try.func61, Try.ntmps61
  go_wp2
  refine bodyPost_ret (v := .tuple #[.int .i64 0, .iface 62 (.int .i64 3)]) (by simp [results, Try.results61, go_sem]) rfl ⟨?_, ?_⟩
  ·rfl
  ·exact Below.refl _ _
 ·by_cases h0 : n = 0 ∧ (i < 0 ∨ 12 < i)
  ·have hf : netWideFault ls i = 1 := by unfold netWideFault; rw [if_neg (by omega), if_pos (by rw [hl]; exact h0)]
   rw [hf, okOr_bad (by omega), errV_err (by omega)]
   clear hf
   obtain ⟨rfl, h1⟩ := h0
   rcases h1 with h1 | h1
   ·go_enter Try.func61, Try.ntmps61
    go_wp2
    refine bodyPost_ret (v := .tuple #[.int .i64 0, .iface 62 (.int .i64 1)]) (by simp [results, Try.results61, go_sem]) rfl ⟨?_, ?_⟩
    ·rfl
    ·exact Below.refl _ _
   ·go_enter Try.func61, Try.ntmps61
    go_wp2
    refine bodyPost_ret (v := .tuple #[.int .i64 0, .iface 62 (.int .i64 1)]) (by simp [results, Try.results61, go_sem]) rfl ⟨?_, ?_⟩
    ·rfl
    ·exact Below.refl _ _
  ·have hf : netWideFault ls i = wideTo ls i n := by unfold netWideFault; rw [if_neg (by omega), if_neg (by rw [hl]; exact h0), hl]
   rw [hf]
   have H0 := Lib.hid h0
   clear hf h0
   by_cases hn : n = 0
   ·subst hn
    have h1 : 0 ≤ i := by have := H0.out; omega
    have h2 : i ≤ 12 := by have := H0.out; omega
    rw [show wideTo ls i 0 = 0 from rfl, okOr_ok rfl, errV_nil rfl]
    show Calls _ _ _ _ fun e w' => e = .returned (.tuple #[.int .i64 i, .nilIface]) ∧ _
    go_enter Try.func61, Try.ntmps61
    go_wp2
    go_loopw [1, 26] (fun s j wr => j = .int .i64 0 ∧ s = .int .i64 i ∧ Below w.heap.size w wr) (fun _ _ _ => 0)
    case atStart => exact ⟨rfl, rfl, Below.refl _ _⟩
    case round =>
     obtain ⟨rfl, rfl, hbr⟩ := hrel
     go_wp2
     refine bodyPost_ret (v := .tuple #[.int .i64 i, .nilIface]) (by simp [results, Try.results61, go_sem]) rfl ⟨?_, ?_⟩
     ·rfl
     ·exact hbr
   ·have hne : ((n : Int) == 0) = false := by simp; omega
    have key : ∀ K, Calls Try.prog 61 #[.slice a n k, .int .i64 i] w K → Calls Try.prog 61 #[.slice a n k, .int .i64 i] w K := fun K h => h
    clear key
    go_enter Try.func61, Try.ntmps61
    go_wp2
    all_goals (
     go_loopw [1, 26] (fun s j wr => ∃ t : Nat, t ≤ n ∧ j = .int .i64 t ∧ s = .int .i64 (netW ls i t) ∧ wideTo ls i t = 0 ∧ Below w.heap.size w wr) (fun _ j _ => n - (intOf j).toNat)
     case atStart => exact ⟨0, Nat.zero_le _, rfl, rfl, rfl, Below.refl _ _⟩
     case round =>
      obtain ⟨t, ht, rfl, rfl, hw0, hbr⟩ := hrel
      have HW := Lib.hid hw0
      have hbd : -9223372036854775808 ≤ netW ls i t ∧ netW ls i t ≤ 9223372036854775807 := by
       rcases Nat.eq_zero_or_pos t with rfl | hp
       ·exact hi
       ·have := netW_bd hw0 hp; omega
      clear hw0
      by_cases hlt : t < n
      ·obtain rfl := h.ptr (by omega)
       obtain ⟨a1, n1, k1, b1, o1, a2, n2, k2, b2, o2, c0, c1, c2, c3, c4, c5, c6, x1, x2⟩ := lay_cells (h.keep hbr) hlt
       by_cases hf : (lx ls t).wideFault (netW ls i t) = 0
       ·have HF := Lib.hid hf
        have HE : Hid (errV ((lx ls t).wideFault (netW ls i t)) = .nilIface) := Lib.hid (errV_nil hf)
        have HK : Hid (okOr ((lx ls t).wideFault (netW ls i t)) ((lx ls t).wide (netW ls i t)) = netW ls i (t + 1)) := Lib.hid (okOr_ok hf)
        clear hf
        go_wp2_with fail
        refine (layWide_any (lx ls t) (netW ls i t) _ _ ⟨_, _, _, _, _, _, _, _, _, _, rfl, x1.alloc _, x2.alloc _⟩ hbd).mono ?_
        rw [HE.out, HK.out]
        rintro e w1 ⟨rfl, hb1⟩
        have hbe : Below w.heap.size w w1 := (Below.y1 hb1 hbr)
        go_wp2
        go_roundw
        case rel => exact ⟨t + 1, by omega, by go_num, rfl, by rw [wideTo_succ HW.out]; exact HF.out, hbe⟩
        case measure => simp [intOf]; omega
       ·have HF := Lib.hid hf
        have HE : Hid (errV ((lx ls t).wideFault (netW ls i t)) = .iface 62 (.int .i64 ((lx ls t).wideFault (netW ls i t)))) := Lib.hid (errV_err hf)
        have HK : Hid (okOr ((lx ls t).wideFault (netW ls i t)) ((lx ls t).wide (netW ls i t)) = 0) := Lib.hid (okOr_bad hf)
        clear hf
        go_wp2_with fail
        refine (layWide_any (lx ls t) (netW ls i t) _ _ ⟨_, _, _, _, _, _, _, _, _, _, rfl, x1.alloc _, x2.alloc _⟩ hbd).mono ?_
        rw [HE.out, HK.out]
        rintro e w1 ⟨rfl, hb1⟩
        have hbe : Below w.heap.size w w1 := (Below.y1 hb1 hbr)
        go_wp2
        have hs : wideTo ls i (t + 1) = (lx ls t).wideFault (netW ls i t) := wideTo_succ HW.out
        have hst : wideTo ls i n = (lx ls t).wideFault (netW ls i t) := by rw [wideTo_stop (show t + 1 ≤ n by omega) (by rw [hs]; exact HF.out), hs]
        refine bodyPost_ret (v := .tuple #[.int .i64 0, .iface 62 (.int .i64 ((lx ls t).wideFault (netW ls i t)))]) (by simp [results, Try.results61, go_sem]) rfl ⟨?_, ?_⟩
        ·rw [hst, HE.out, okOr_bad HF.out]
        ·exact hbe
      ·obtain rfl : t = n := by omega
       go_wp2
       refine bodyPost_ret (v := .tuple #[.int .i64 (netW ls i t), .nilIface]) (by simp [results, Try.results61, go_sem]) rfl ⟨?_, ?_⟩
       ·rw [HW.out, okOr_ok rfl, errV_nil rfl]
       ·exact hbr)
end
end Go.Proofs.Ytchngeagnlngaaa
end
