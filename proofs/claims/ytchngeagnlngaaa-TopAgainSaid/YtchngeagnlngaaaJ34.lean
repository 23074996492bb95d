/- Texts joined: Net3, Loss1. -/
import Derived.Test.YtchngeagnlngaaaJ33
import Derived.Test.YtchngeagnlngaaaJ04
import Derived.Test.YtchngeagnlngaaaJ18
import Derived.Test.YtchngeagnlngaaaJ08
import Derived.Test.YtchngeagnlngaaaJ03
import Derived.Test.YtchngeagnlngaaaJ02
import Derived.RangeFuncNested
import Derived.RangeFuncBound
import Derived.RangeFuncCalls
import Derived.RangeFuncLeaves
import Derived.RangeFuncBox
import Derived.Shelf.Abstract
import Derived.Shelf.RegionOpen
import Derived.OwnWalkIn
import Derived.TacticsInMore
import Derived.LoopNIn
import Derived.LoopIn
import Derived.RegionIn
section
set_option linter.unusedVariables false
set_option linter.unusedSimpArgs false
namespace Gal
open Go Go.RowKit
theorem mats_cells {w : World} {F : Nat → Prop} {a : Option Addr} {n k b o : Nat} {ms : List Mat} {i : Nat} (h : RowAt Form.mat w F a n k b o ms) (hi : i < n) :
  ∃ a1 n1 k1 b1 o1, Cells3 w b (o + i * 3) (.int .i64 (mx ms i).rows) (.int .i64 (mx ms i).cols) (.slice a1 n1 k1) ∧ IntsAt w a1 n1 k1 b1 o1 (mx ms i).cells := by
 have hx : ms[i]? = some (mx ms i) := by unfold mx; rw [List.getElem?_eq_getElem (by have := h.len; omega)]; rfl
 obtain ⟨cs, ⟨a1, n1, k1, b1, o1, rfl, _, x1⟩, hc⟩ := h.cell i _ hx
 exact ⟨a1, n1, k1, b1, o1, ⟨hc 0 (by decide), hc 1 (by decide), hc 2 (by decide)⟩, x1⟩
theorem cells33c {w : World} {b c i j : Nat} {x y z x' y' z' : Value} (h : Cells3 w b i x y z) (k : Cells3 w c j x' y' z') :
  w.cell? ⟨b, i, none⟩ = some x ∧ w.cell? ⟨b, i + 1, none⟩ = some y ∧ w.cell? ⟨b, i + 2, none⟩ = some z ∧ w.cell? ⟨c, j, none⟩ = some x' ∧ w.cell? ⟨c, j + 1, none⟩ = some y' ∧ w.cell? ⟨c, j + 2, none⟩ = some z' := ⟨h.c0, h.c1, h.c2, k.c0, k.c1, k.c2⟩
end Gal
namespace Go.Proofs.Ytchngeagnlngaaa
open Go.RowKit Gal Go.ChangeShapes Go.WideShapes
set_option maxRecDepth 100000
set_option maxRecDepth 100000
set_option maxHeartbeats 4000000
end Go.Proofs.Ytchngeagnlngaaa
end
section
set_option linter.unusedVariables false
set_option linter.unusedSimpArgs false
namespace Go.Proofs.Ytchngeagnlngaaa
open Go.RowKit Go.Shelf Gal
attribute [local go_sem] Oper.semAt_some
set_option maxRecDepth 100000 in
set_option maxHeartbeats 2000000 in
theorem apart1_stops (n : Nat) (hn : 1 ≤ n) (p q n₀ : Nat) (N : Nat) (r0 c0 r1 c1 : Int) (a0 a1 : Option Addr) (k0 k1 b0 b1 o0 o1 : Nat) (xs ys : List Int) (w : World) (hn₀ : n₀ ≤ w.heap.size)
  (hp : Box w p [.int .i64 r0, .int .i64 c0, .slice a0 N k0] 28) (hpl : p < n₀) (hq : Box w q [.int .i64 r1, .int .i64 c1, .slice a1 N k1] 28) (hql : q < n₀)
  (hx : IntsAt w a0 N k0 b0 o0 xs) (hxl : 0 < N → b0 < n₀) (hy : IntsAt w a1 N k1 b1 o1 ys) (hyl : 0 < N → b1 < n₀) :
  SeqStopsK Fence.wide n Try.prog 107 #[.pointer (some ⟨p, 0, none⟩), .pointer (some ⟨q, 0, none⟩)] (fun x : Int => #[Value.int .i64 x]) (Below n₀)
   (fun l => l = offs xs ys N) (fun _ => True) N w := fun l J Jx W hW _ _ hY hJ0 => by
 have hmx := hx.max
 unfold maxLen at hmx
 have Bp := (hp.below hW (by omega))
 have Bq := (hq.below hW (by omega))
 have Bpc := Bp.cell
 have HY := Lib.hid hY
 clear hY
 refine callsIn_of_wp Try.func107 rfl trivial ?_ rfl
 simp only [Try.ntmps107, List.size_toArray, List.length_cons, List.length_nil, Nat.reduceAdd, Nat.reduceSub, Array.replicate_succ, Array.replicate_zero, List.push_toArray, List.append_toArray, List.nil_append, List.cons_append]
 gi_wp2
 gi_loopw [9] (fun i wr => ∃ k : Nat, k ≤ N ∧ i = .int .i64 k ∧ J (offs xs ys k) wr ∧ Below n₀ W wr) (fun i _ => N - (intOf i).toNat)
 case atStart => exact ⟨0, Nat.zero_le _, rfl, hJ0, Below.refl _ _⟩
 case round =>
  obtain ⟨k, hk, rfl, hJs, hnx⟩ := hrel
  have HJ := Lib.hid hJs
  clear hJs
  by_cases hlt : k < N
  ·have hN : 0 < N := by omega
   obtain rfl := hx.ptr hN
   obtain rfl := hy.ptr hN
   have cx := ((hW.mono hn₀).cell (p := ⟨b0, o0 + k, none⟩) (hxl hN)).trans (hx.cell k hlt)
   have cy := ((hW.mono hn₀).cell (p := ⟨b1, o1 + k, none⟩) (hyl hN)).trans (hy.cell k hlt)
   have cx' := (hnx.cell (p := ⟨b0, o0 + k, none⟩) (hxl hN)).trans cx
   have cy' := (hnx.cell (p := ⟨b1, o1 + k, none⟩) (hyl hN)).trans cy
   have Bqr := (Bq.below hnx hql).cell
   clear cx cy
   obtain ⟨fn, tmps, assign, body, hy', hR⟩ := HY.out _ (sub (ix xs k) (ix ys k)) wr HJ.out (by unfold offs; rw [upto_length]; exact hlt)
   have HR := Lib.hid hR
   clear hR
   gi_wp2_with (refine ⟨trivial, ?_⟩; gi_at_call 73; refine (callsIn_wide.2 (sub_any _ _ _)).mono ?_; rintro e w' ⟨rfl, rfl⟩)
   refine HR.out.mono ?_
   rintro e W3 (⟨rfl, hJ3, hk3⟩ | ⟨rfl, hJx3⟩)
   ·have HJ3 := Lib.hid hJ3
    clear hJ3
    gi_wp2
    go_roundw
    case rel => exact ⟨k + 1, by omega, by simp, by unfold offs; rw [upto_succ]; exact HJ3.out, hnx.trans hk3⟩
    case measure => simp [intOf]; omega
   ·gi_wp2
    refine bodyPost_ret (results_none rfl _ _ _) rfl ?_
    exact ⟨⟨_, rfl⟩, .inr ⟨_, trivial, hJx3⟩⟩
  ·obtain rfl : k = N := by omega
   gi_wp2
   go_end0
   exact ⟨⟨_, rfl⟩, .inl ⟨_, rfl, HJ.out⟩⟩
set_option maxRecDepth 100000 in
set_option maxHeartbeats 1000000 in
theorem apart_ok (ma mb : Mat) (a0 a1 : Option Addr) (n0 n1 k0 k1 b0 b1 o0 o1 : Nat) (w : World) (h0 : IntsAt w a0 n0 k0 b0 o0 ma.cells) (h1 : IntsAt w a1 n1 k1 b1 o1 mb.cells) (hf : lossFault ma mb = 0) :
  Calls Try.prog 65 #[.agg #[.int .i64 ma.rows, .int .i64 ma.cols, .slice a0 n0 k0], .agg #[.int .i64 mb.rows, .int .i64 mb.cols, .slice a1 n1 k1]] w fun e w' =>
   e = .returned (.tuple #[.func (.func 107) #[] #[.pointer (some ⟨w.heap.size, 0, none⟩), .pointer (some ⟨w.heap.size + 1, 0, none⟩)], .nilIface]) ∧
   Box w' w.heap.size [.int .i64 ma.rows, .int .i64 ma.cols, .slice a0 n0 k0] 28 ∧ Box w' (w.heap.size + 1) [.int .i64 mb.rows, .int .i64 mb.cols, .slice a1 n1 k1] 28 ∧ Below w.heap.size w w' := by
 obtain ⟨fa, fb, hr, hc⟩ := lossFault_ok hf
 have hE0 : errV (matFault ma.rows ma.cols ma.cells) = .nilIface := errV_nil fa
 have hE1 : errV (matFault mb.rows mb.cols mb.cells) = .nilIface := errV_nil fb
 have e1 : (ma.rows != mb.rows) = false := by simp [hr]
 have e2 : (ma.cols != mb.cols) = false := by simp [hc]
 clear hf fa fb hr hc
 go_enter Try.func65, Try.ntmps65
 go_wp2_with fail
 refine (matCheck_any _ _ _ _ _ _ _ ma.cells _ (h0.alloc _ |>.alloc _)).mono ?_
 rintro e w1 ⟨rfl, hb1⟩
 have B0 := ((Box.new w _ 28).alloc _).keep hb1
 have B0c := B0.cell
 have B0f := B0.thawed
 have B0z := B0.lt
 have B0k := lt_add B0z
 have B1 := (Box.new' _ (w.heap.size + 1) _ 28 (by simp)).keep hb1
 have B1c := B1.cell
 have B1f := B1.thawed
 have B1z := B1.lt
 have B1k := lt_add B1z
 have hkw1 : Below w.heap.size w w1 := (Below.x1 hb1)
 replace h0 := h0.keep hkw1
 replace h1 := h1.keep hkw1
 go_wp2_with fail
 refine (matCheck_any _ _ _ _ _ _ _ mb.cells _ h1).mono ?_
 rintro e w2 ⟨rfl, hb2⟩
 have hkw2 : Below w1.heap.size w1 w2 := (Below.x1 hb2)
 replace B0 := B0.keep hkw2
 replace B0c := B0.cell
 replace B0f := B0.thawed
 replace B0z := B0.lt
 replace B0k := lt_add B0z
 replace B1 := B1.keep hkw2
 replace B1c := B1.cell
 replace B1f := B1.thawed
 replace B1z := B1.lt
 replace B1k := lt_add B1z
 go_wp2
 go_ret2
 exact ⟨rfl, B0, B1, (Below.x2 hb2 hb1)⟩
set_option maxRecDepth 100000 in
set_option maxHeartbeats 1000000 in
theorem apart_bad (ma mb : Mat) (a0 a1 : Option Addr) (n0 n1 k0 k1 b0 b1 o0 o1 : Nat) (w : World) (h0 : IntsAt w a0 n0 k0 b0 o0 ma.cells) (h1 : IntsAt w a1 n1 k1 b1 o1 mb.cells) (hf : lossFault ma mb ≠ 0) :
  Calls Try.prog 65 #[.agg #[.int .i64 ma.rows, .int .i64 ma.cols, .slice a0 n0 k0], .agg #[.int .i64 mb.rows, .int .i64 mb.cols, .slice a1 n1 k1]] w fun e w' =>
   e = .returned (.tuple #[.nilFunc, .iface 62 (.int .i64 (lossFault ma mb))]) ∧ Below w.heap.size w w' := by
 by_cases fa : matFault ma.rows ma.cols ma.cells = 0
 ·have hE0 : errV (matFault ma.rows ma.cols ma.cells) = .nilIface := errV_nil fa
  by_cases fb : matFault mb.rows mb.cols mb.cells = 0
  ·have hE1 : errV (matFault mb.rows mb.cols mb.cells) = .nilIface := errV_nil fb
   have hff : firstFault [ma, mb] = 0 := firstFault_two.2 ⟨fa, fb⟩
   have hL : lossFault ma mb = 2 := by
    unfold lossFault at *
    rw [if_pos hff] at *
    by_cases h : ma.rows = mb.rows ∧ ma.cols = mb.cols
    ·rw [if_pos h] at hf; omega
    ·rw [if_neg h]
   have hor : (ma.rows != mb.rows) = true ∨ (ma.rows != mb.rows) = false ∧ (ma.cols != mb.cols) = true := by
    unfold lossFault at hf
    rw [if_pos hff] at hf
    by_cases h : ma.rows = mb.rows
    ·by_cases h' : ma.cols = mb.cols
     ·rw [if_pos ⟨h, h'⟩] at hf; omega
     ·right; simp [h, h']
    ·left; simp [h]
   rw [hL]
   clear hL hf hff fa fb
   rcases hor with hr | ⟨hr, hc⟩
   all_goals
    go_enter Try.func65, Try.ntmps65
    go_wp2_with fail
    refine (matCheck_any _ _ _ _ _ _ _ ma.cells _ (h0.alloc _ |>.alloc _)).mono ?_
    rintro e w1 ⟨rfl, hb1⟩
    have B0 := ((Box.new w _ 28).alloc _).keep hb1
    have B0c := B0.cell
    have B0f := B0.thawed
    have B0z := B0.lt
    have B0k := lt_add B0z
    have B1 := (Box.new' _ (w.heap.size + 1) _ 28 (by simp)).keep hb1
    have B1c := B1.cell
    have B1f := B1.thawed
    have B1z := B1.lt
    have B1k := lt_add B1z
    have hkw1 : Below w.heap.size w w1 := (Below.x1 hb1)
    replace h0 := h0.keep hkw1
    replace h1 := h1.keep hkw1
    go_wp2_with fail
    refine (matCheck_any _ _ _ _ _ _ _ mb.cells _ h1).mono ?_
    rintro e w2 ⟨rfl, hb2⟩
    have hkw2 : Below w1.heap.size w1 w2 := (Below.x1 hb2)
    replace B0 := B0.keep hkw2
    replace B0c := B0.cell
    replace B0f := B0.thawed
    replace B0z := B0.lt
    replace B0k := lt_add B0z
    replace B1 := B1.keep hkw2
    replace B1c := B1.cell
    replace B1f := B1.thawed
    replace B1z := B1.lt
    replace B1k := lt_add B1z
    go_wp2
    go_ret2
    exact ⟨rfl, (Below.x2 hb2 hb1)⟩
  ·have hE1 : errV (matFault mb.rows mb.cols mb.cells) = .iface 62 (.int .i64 (matFault mb.rows mb.cols mb.cells)) := errV_err fb
   have hL : lossFault ma mb = matFault mb.rows mb.cols mb.cells := by
    have h2 : firstFault [ma, mb] ≠ 0 := fun h => fb (firstFault_two.1 h).2
    unfold lossFault
    rw [if_neg h2]
    simp [firstFault, Mat.fault, fa, fb]
   rw [hL]
   clear hL hf fa fb
   go_enter Try.func65, Try.ntmps65
   go_wp2_with fail
   refine (matCheck_any _ _ _ _ _ _ _ ma.cells _ (h0.alloc _ |>.alloc _)).mono ?_
   rintro e w1 ⟨rfl, hb1⟩
   have B0 := ((Box.new w _ 28).alloc _).keep hb1
   have B0c := B0.cell
   have B0f := B0.thawed
   have B0z := B0.lt
   have B0k := lt_add B0z
   have B1 := (Box.new' _ (w.heap.size + 1) _ 28 (by simp)).keep hb1
   have B1c := B1.cell
   have B1f := B1.thawed
   have B1z := B1.lt
   have B1k := lt_add B1z
   have hkw1 : Below w.heap.size w w1 := (Below.x1 hb1)
   replace h0 := h0.keep hkw1
   replace h1 := h1.keep hkw1
   go_wp2_with fail
   refine (matCheck_any _ _ _ _ _ _ _ mb.cells _ h1).mono ?_
   rintro e w2 ⟨rfl, hb2⟩
   have hkw2 : Below w1.heap.size w1 w2 := (Below.x1 hb2)
   replace B0 := B0.keep hkw2
   replace B0c := B0.cell
   replace B0f := B0.thawed
   replace B0z := B0.lt
   replace B0k := lt_add B0z
   replace B1 := B1.keep hkw2
   replace B1c := B1.cell
   replace B1f := B1.thawed
   replace B1z := B1.lt
   replace B1k := lt_add B1z
   go_wp2
   go_ret2
   exact ⟨rfl, (Below.x2 hb2 hb1)⟩
 ·have hE0 : errV (matFault ma.rows ma.cols ma.cells) = .iface 62 (.int .i64 (matFault ma.rows ma.cols ma.cells)) := errV_err fa
  have hL : lossFault ma mb = matFault ma.rows ma.cols ma.cells := by
   have h2 : firstFault [ma, mb] ≠ 0 := fun h => fa (firstFault_two.1 h).1
   unfold lossFault
   rw [if_neg h2]
   simp [firstFault, Mat.fault, fa]
  rw [hL]
  clear hL hf fa
  go_enter Try.func65, Try.ntmps65
  go_wp2_with fail
  refine (matCheck_any _ _ _ _ _ _ _ ma.cells _ (h0.alloc _ |>.alloc _)).mono ?_
  rintro e w1 ⟨rfl, hb1⟩
  go_wp2
  go_ret2
  exact ⟨rfl, (Below.x1 hb1)⟩
set_option maxRecDepth 100000 in
set_option maxHeartbeats 1000000 in
theorem lossOf_bad (ma mb : Mat) (va vb : Value) (w : World) (ha : MatAt w va ma) (hb : MatAt w vb mb) (hf : lossFault ma mb ≠ 0) :
  Calls Try.prog 27 #[va, vb] w fun e w' => e = .returned (.tuple #[.int .i64 0, .iface 62 (.int .i64 (lossFault ma mb))]) ∧ Below w.heap.size w w' := by
 obtain ⟨a0, n0, k0, b0, o0, rfl, h0⟩ := ha
 obtain ⟨a1, n1, k1, b1, o1, rfl, h1⟩ := hb
 go_enter Try.func27, Try.ntmps27
 go_wp2_with fail
 refine (apart_bad ma mb _ _ _ _ _ _ _ _ _ _ _ (h0.alloc _ |>.alloc _) (h1.alloc _ |>.alloc _) hf).mono ?_
 rintro e w2 ⟨rfl, hb2⟩
 go_wp2
 go_ret2
 exact ⟨rfl, (Below.x1 hb2)⟩
set_option maxRecDepth 100000 in
set_option maxHeartbeats 2000000 in
theorem lossOf_ok (ma mb : Mat) (va vb : Value) (w : World) (ha : MatAt w va ma) (hb : MatAt w vb mb) (hf : lossFault ma mb = 0) :
  Calls Try.prog 27 #[va, vb] w fun e w' => e = .returned (.tuple #[.int .i64 (lossOf ma mb), .nilIface]) ∧ Below w.heap.size w w' := by
 obtain ⟨a0, n0, k0, b0, o0, rfl, h0⟩ := ha
 obtain ⟨a1, n1, k1, b1, o1, rfl, h1⟩ := hb
 obtain ⟨fa, fb, hr, hc⟩ := lossFault_ok hf
 have hn : n0 = n1 := by
  obtain ⟨R, C, e1, e2, _, _, e3, _⟩ := matFault_ok fa
  obtain ⟨R', C', e1', e2', _, _, e3', _⟩ := matFault_ok fb
  have q1 := h0.len
  have q2 := h1.len
  have r1 : R = R' := by omega
  have r2 : C = C' := by omega
  subst r1 r2
  omega
 subst hn
 have HF := Lib.hid hf
 clear hf fa fb hr hc
 refine (callsIn_wide (n := 6)).1 ?_
 refine callsIn_of_wp_marks Try.func27 rfl trivial ?_ rfl
 simp only [Try.ntmps27, List.size_toArray, List.length_cons, List.length_nil, Nat.reduceAdd, Nat.reduceSub, Array.replicate_succ, Array.replicate_zero, List.push_toArray, List.append_toArray, List.nil_append, List.cons_append]
 gi_wp2_with fail
 refine ⟨trivial, ?_⟩
 refine (callsIn_wide.2 (apart_ok ma mb _ _ _ _ _ _ _ _ _ _ _ (h0.alloc _ |>.alloc _) (h1.alloc _ |>.alloc _) HF.out)).mono ?_
 rintro e w2 ⟨rfl, Ba, Bb, hb2⟩
 simp only [World.size_alloc] at Ba Bb
 have hk2 : Below w.heap.size w w2 := (Below.x1 hb2)
 have x0 := h0.keep hk2
 have x1 := h1.keep hk2
 have z2 := Bb.lt
 gi_wp2
 have hz3 : w.heap.size + 1 + 1 + 1 < w2.heap.size := z2
 have hS : Box (w2.alloc (.cells #[.int .i64 0] 3)) w2.heap.size [.int .i64 0] 3 := Box.new w2 _ _
 refine wpIn_rangeFunc_ownF rfl (by decide) (gf := 107) (lb := #[.pointer (some ⟨w.heap.size + 1 + 1, 0, none⟩), .pointer (some ⟨w.heap.size + 1 + 1 + 1, 0, none⟩)]) rfl trivial (enters_of Try.func107 (by kernel_rfl) rfl)
  (apart1_stops 5 (by decide) (w.heap.size + 1 + 1) (w.heap.size + 1 + 1 + 1) w2.heap.size n0 _ _ _ _ a0 a1 k0 k1 b0 b1 o0 o1 ma.cells mb.cells (w2.alloc (.cells #[.int .i64 0] 3)) (by simp) (Ba.alloc _) (by omega) (Bb.alloc _) (by omega) (x0.alloc _) x0.lt (x1.alloc _) x1.lt)
  belowK_t (belowK_b (by simp)) (Below.refl _ _) (fun _ => rfl)
  (fun pre W => (W.cell? ⟨w2.heap.size, 0, none⟩ = some (.int .i64 (sqSum pre)) ∧ W.frozen? ⟨w2.heap.size, 0, none⟩ = false) ∧ Below w.heap.size w W)
  (fun _ _ _ => False)
  (OwnFrom.and (Own.from (fun s A B row hs hg hr => ⟨cell_kept hs.1 hg hr, (frozen_kept hs.1 hg hr).trans hs.2⟩) _) (ownFrom_below (by have := hk2.size; first | omega | (simp; omega) | simp) (by have := hk2.size; first | omega | (simp; omega) | simp)))
  (fun _ _ _ _ _ hs _ _ => hs)
  ⟨⟨hS.cell 0, hS.thawed 0⟩, hk2.al _⟩
  (fun x => { tmps := #[.agg #[.int .i64 ma.rows, .int .i64 ma.cols, .slice a0 n0 k0], .agg #[.int .i64 mb.rows, .int .i64 mb.cols, .slice a1 n0 k1], .pointer (some ⟨w.heap.size, 0, none⟩), .pointer (some ⟨w.heap.size + 1, 0, none⟩), .int .i64 0, .nilIface,
   .func (.func 107) #[] #[.pointer (some ⟨w.heap.size + 1 + 1, 0, none⟩), .pointer (some ⟨w.heap.size + 1 + 1 + 1, 0, none⟩)], .nilIface, .pointer (some ⟨w2.heap.size, 0, none⟩), .int .i64 x,
   .tuple #[.func (.func 107) #[] #[.pointer (some ⟨w.heap.size + 1 + 1, 0, none⟩), .pointer (some ⟨w.heap.size + 1 + 1 + 1, 0, none⟩)], .nilIface], .agg #[.int .i64 ma.rows, .int .i64 ma.cols, .slice a0 n0 k0], .agg #[.int .i64 mb.rows, .int .i64 mb.cols, .slice a1 n0 k1],
   .tuple #[.func (.func 107) #[] #[.pointer (some ⟨w.heap.size + 1 + 1, 0, none⟩), .pointer (some ⟨w.heap.size + 1 + 1 + 1, 0, none⟩)], .nilIface], .func (.func 107) #[] #[.pointer (some ⟨w.heap.size + 1 + 1, 0, none⟩), .pointer (some ⟨w.heap.size + 1 + 1 + 1, 0, none⟩)], .nilIface, .nilIface, .bool false, undef,
   .func (.func 107) #[] #[.pointer (some ⟨w.heap.size + 1 + 1, 0, none⟩), .pointer (some ⟨w.heap.size + 1 + 1 + 1, 0, none⟩)], .int .i64 x, undef, undef, undef, undef, undef, undef, undef], defers := [] }) ?assign ?body ?done ?stop
 case assign =>
  intro l x W K hK
  gi_wp2
  exact hK
 case body =>
  rintro l pre x W ⟨⟨hc, hf⟩, hB⟩ _
  have hmx : Try.prog.follows .mixedOrders = true := by kernel_rfl
  gi_wp2
  gi_region_with_o (first | (refine ⟨trivial, ?_⟩; gi_at_call 66; refine (CallsIn.inRound l (callsIn_wide.2 (mul_any _ _ _))).mono ?_; rintro e w' ⟨rfl, rfl⟩) | (refine ⟨trivial, ?_⟩; gi_at_call 31; refine (CallsIn.inRound l (callsIn_wide.2 (add_any _ _ _))).mono ?_; rintro e w' ⟨rfl, rfl⟩))
  all_goals gi_wp2
  all_goals exact ⟨(KeepsOthers.setCell _ _ _).trans (KeepsOthers.drew _), ((Below.refl w2.heap.size W).setCell (p := ⟨w2.heap.size, 0, none⟩) (Nat.le_refl _) _).drew, ⟨by rw [sqSum_snoc]; exact World.cell?_setCell_same' _ _ _ (by rw [hc]; rfl), by rw [frozen_drew_own, World.frozen?_setCell]; exact hf⟩,
   (hB.setCell (p := ⟨w2.heap.size, 0, none⟩) (by have := hk2.size; dsimp only; omega) _).drew⟩
 case done =>
  rintro D l W hD rfl ⟨⟨hc, hf⟩, hB⟩ hK
  gi_wp2_with (refine ⟨trivial, ?_⟩; gi_at_call 66; refine (callsIn_wide.2 (mul_any _ _ _)).mono ?_; rintro e w' ⟨rfl, rfl⟩)
  refine ⟨by simp, .inl ⟨_, _, rfl, run_takeDeferred hK, ?_⟩⟩
  refine ⟨_, results_tmp2 rfl _ _ _, ?_, hB.trans (belowK_b (w := w) (Nat.le_refl _) W D _ _ (by have := hk2.size; simp at hD; omega) hK rfl rfl)⟩
  unfold lossOf
  rw [h0.len]
  rfl
 case stop =>
  rintro D c pre W _ _ h _
  exact h.elim
end Go.Proofs.Ytchngeagnlngaaa
end
