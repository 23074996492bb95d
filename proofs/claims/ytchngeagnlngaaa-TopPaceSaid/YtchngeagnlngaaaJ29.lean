/- Texts joined: Loss1, Back1, Range. -/
import Derived.Test.YtchngeagnlngaaaJ07
import Derived.Test.YtchngeagnlngaaaJ06
import Derived.Test.YtchngeagnlngaaaJ02
import Derived.RangeFuncNested
import Derived.RangeFuncBound
import Derived.RangeFuncCalls
import Derived.RangeFuncLeaves
import Derived.RangeFuncBox
import Derived.Shelf.Abstract
import Derived.Shelf.RegionOpen
import Derived.OwnWalkIn
import Derived.TacticsInMore
import Derived.LoopNIn
import Derived.LoopIn
import Derived.RegionIn
import Derived.Test.YtchngeagnlngaaaJ18
import Derived.Test.YtchngeagnlngaaaJ03
import Derived.RangeFuncWrites
import Derived.Below
section
set_option linter.unusedVariables false
set_option linter.unusedSimpArgs false
namespace Go.Proofs.Ytchngeagnlngaaa
open Go.RowKit Go.Shelf Gal
attribute [local go_sem] Oper.semAt_some
set_option maxRecDepth 100000 in
set_option maxHeartbeats 2000000 in
theorem apart1_stops (n : Nat) (hn : 1 ≤ n) (p q n₀ : Nat) (N : Nat) (r0 c0 r1 c1 : Int) (a0 a1 : Option Addr) (k0 k1 b0 b1 o0 o1 : Nat) (xs ys : List Int) (w : World) (hn₀ : n₀ ≤ w.heap.size)
  (hp : Box w p [.int .i64 r0, .int .i64 c0, .slice a0 N k0] 28) (hpl : p < n₀) (hq : Box w q [.int .i64 r1, .int .i64 c1, .slice a1 N k1] 28) (hql : q < n₀)
  (hx : IntsAt w a0 N k0 b0 o0 xs) (hxl : 0 < N → b0 < n₀) (hy : IntsAt w a1 N k1 b1 o1 ys) (hyl : 0 < N → b1 < n₀) :
  SeqStopsK Fence.wide n Try.prog 107 #[.pointer (some ⟨p, 0, none⟩), .pointer (some ⟨q, 0, none⟩)] (fun x : Int => #[Value.int .i64 x]) (Below n₀)
   (fun l => l = offs xs ys N) (fun _ => True) N w := fun l J Jx W hW _ _ hY hJ0 => by
 have hmx := hx.max
 unfold maxLen at hmx
 have Bp := (hp.below hW (by omega))
 have Bq := (hq.below hW (by omega))
 have Bpc := Bp.cell
 have HY := Lib.hid hY
 clear hY
 refine callsIn_of_wp Try.func107 rfl trivial ?_ rfl
 simp only [Try.ntmps107, List.size_toArray, List.length_cons, List.length_nil, Nat.reduceAdd, Nat.reduceSub, Array.replicate_succ, Array.replicate_zero, List.push_toArray, List.append_toArray, List.nil_append, List.cons_append]
 gi_wp2
 gi_loopw [9] (fun i wr => ∃ k : Nat, k ≤ N ∧ i = .int .i64 k ∧ J (offs xs ys k) wr ∧ Below n₀ W wr) (fun i _ => N - (intOf i).toNat)
 case atStart => exact ⟨0, Nat.zero_le _, rfl, hJ0, Below.refl _ _⟩
 case round =>
  obtain ⟨k, hk, rfl, hJs, hnx⟩ := hrel
  have HJ := Lib.hid hJs
  clear hJs
  by_cases hlt : k < N
  ·have hN : 0 < N := by omega
   obtain rfl := hx.ptr hN
   obtain rfl := hy.ptr hN
   have cx := ((hW.mono hn₀).cell (p := ⟨b0, o0 + k, none⟩) (hxl hN)).trans (hx.cell k hlt)
   have cy := ((hW.mono hn₀).cell (p := ⟨b1, o1 + k, none⟩) (hyl hN)).trans (hy.cell k hlt)
   have cx' := (hnx.cell (p := ⟨b0, o0 + k, none⟩) (hxl hN)).trans cx
   have cy' := (hnx.cell (p := ⟨b1, o1 + k, none⟩) (hyl hN)).trans cy
   have Bqr := (Bq.below hnx hql).cell
   clear cx cy
   obtain ⟨fn, tmps, assign, body, hy', hR⟩ := HY.out _ (sub (ix xs k) (ix ys k)) wr HJ.out (by unfold offs; rw [upto_length]; exact hlt)
   have HR := Lib.hid hR
   clear hR
   gi_wp2_with (refine ⟨trivial, ?_⟩; gi_at_call 73; refine (callsIn_wide.2 (sub_any _ _ _)).mono ?_; rintro e w' ⟨rfl, rfl⟩)
   refine HR.out.mono ?_
   rintro e W3 (⟨rfl, hJ3, hk3⟩ | ⟨rfl, hJx3⟩)
   ·have HJ3 := Lib.hid hJ3
    clear hJ3
    gi_wp2
    go_roundw
    case rel => exact ⟨k + 1, by omega, by simp, by unfold offs; rw [upto_succ]; exact HJ3.out, hnx.trans hk3⟩
    case measure => simp [intOf]; omega
   ·gi_wp2
    refine bodyPost_ret (results_none rfl _ _ _) rfl ?_
    exact ⟨⟨_, rfl⟩, .inr ⟨_, trivial, hJx3⟩⟩
  ·obtain rfl : k = N := by omega
   gi_wp2
   go_end0
   exact ⟨⟨_, rfl⟩, .inl ⟨_, rfl, HJ.out⟩⟩
set_option maxRecDepth 100000 in
set_option maxHeartbeats 1000000 in
theorem apart_ok (ma mb : Mat) (a0 a1 : Option Addr) (n0 n1 k0 k1 b0 b1 o0 o1 : Nat) (w : World) (h0 : IntsAt w a0 n0 k0 b0 o0 ma.cells) (h1 : IntsAt w a1 n1 k1 b1 o1 mb.cells) (hf : lossFault ma mb = 0) :
  Calls Try.prog 65 #[.agg #[.int .i64 ma.rows, .int .i64 ma.cols, .slice a0 n0 k0], .agg #[.int .i64 mb.rows, .int .i64 mb.cols, .slice a1 n1 k1]] w fun e w' =>
   e = .returned (.tuple #[.func (.func 107) #[] #[.pointer (some ⟨w.heap.size, 0, none⟩), .pointer (some ⟨w.heap.size + 1, 0, none⟩)], .nilIface]) ∧
   Box w' w.heap.size [.int .i64 ma.rows, .int .i64 ma.cols, .slice a0 n0 k0] 28 ∧ Box w' (w.heap.size + 1) [.int .i64 mb.rows, .int .i64 mb.cols, .slice a1 n1 k1] 28 ∧ Below w.heap.size w w' := by
 obtain ⟨fa, fb, hr, hc⟩ := lossFault_ok hf
 have hE0 : errV (matFault ma.rows ma.cols ma.cells) = .nilIface := errV_nil fa
 have hE1 : errV (matFault mb.rows mb.cols mb.cells) = .nilIface := errV_nil fb
 have e1 : (ma.rows != mb.rows) = false := by simp [hr]
 have e2 : (ma.cols != mb.cols) = false := by simp [hc]
 clear hf fa fb hr hc
 go_enter Try.func65, Try.ntmps65
 go_wp2_with fail
 refine (matCheck_any _ _ _ _ _ _ _ ma.cells _ (h0.alloc _ |>.alloc _)).mono ?_
 rintro e w1 ⟨rfl, hb1⟩
 have B0 := ((Box.new w _ 28).alloc _).keep hb1
 have B0c := B0.cell
 have B0f := B0.thawed
 have B0z := B0.lt
 have B0k := lt_add B0z
 have B1 := (Box.new' _ (w.heap.size + 1) _ 28 (by simp)).keep hb1
 have B1c := B1.cell
 have B1f := B1.thawed
 have B1z := B1.lt
 have B1k := lt_add B1z
 have hkw1 : Below w.heap.size w w1 := (Below.x1 hb1)
 replace h0 := h0.keep hkw1
 replace h1 := h1.keep hkw1
 go_wp2_with fail
 refine (matCheck_any _ _ _ _ _ _ _ mb.cells _ h1).mono ?_
 rintro e w2 ⟨rfl, hb2⟩
 have hkw2 : Below w1.heap.size w1 w2 := (Below.x1 hb2)
 replace B0 := B0.keep hkw2
 replace B0c := B0.cell
 replace B0f := B0.thawed
 replace B0z := B0.lt
 replace B0k := lt_add B0z
 replace B1 := B1.keep hkw2
 replace B1c := B1.cell
 replace B1f := B1.thawed
 replace B1z := B1.lt
 replace B1k := lt_add B1z
 go_wp2
 go_ret2
 exact ⟨rfl, B0, B1, (Below.x2 hb2 hb1)⟩
set_option maxRecDepth 100000 in
set_option maxHeartbeats 2000000 in
theorem lossOf_ok (ma mb : Mat) (va vb : Value) (w : World) (ha : MatAt w va ma) (hb : MatAt w vb mb) (hf : lossFault ma mb = 0) :
  Calls Try.prog 27 #[va, vb] w fun e w' => e = .returned (.tuple #[.int .i64 (lossOf ma mb), .nilIface]) ∧ Below w.heap.size w w' := by
 obtain ⟨a0, n0, k0, b0, o0, rfl, h0⟩ := ha
 obtain ⟨a1, n1, k1, b1, o1, rfl, h1⟩ := hb
 obtain ⟨fa, fb, hr, hc⟩ := lossFault_ok hf
 have hn : n0 = n1 := by
  obtain ⟨R, C, e1, e2, _, _, e3, _⟩ := matFault_ok fa
  obtain ⟨R', C', e1', e2', _, _, e3', _⟩ := matFault_ok fb
  have q1 := h0.len
  have q2 := h1.len
  have r1 : R = R' := by omega
  have r2 : C = C' := by omega
  subst r1 r2
  omega
 subst hn
 have HF := Lib.hid hf
 clear hf fa fb hr hc
 refine (callsIn_wide (n := 6)).1 ?_
 refine callsIn_of_wp_marks Try.func27 rfl trivial ?_ rfl
 simp only [Try.ntmps27, List.size_toArray, List.length_cons, List.length_nil, Nat.reduceAdd, Nat.reduceSub, Array.replicate_succ, Array.replicate_zero, List.push_toArray, List.append_toArray, List.nil_append, List.cons_append]
 gi_wp2_with fail
 refine ⟨trivial, ?_⟩
 refine (callsIn_wide.2 (apart_ok ma mb _ _ _ _ _ _ _ _ _ _ _ (h0.alloc _ |>.alloc _) (h1.alloc _ |>.alloc _) HF.out)).mono ?_
 rintro e w2 ⟨rfl, Ba, Bb, hb2⟩
 simp only [World.size_alloc] at Ba Bb
 have hk2 : Below w.heap.size w w2 := (Below.x1 hb2)
 have x0 := h0.keep hk2
 have x1 := h1.keep hk2
 have z2 := Bb.lt
 gi_wp2
 have hz3 : w.heap.size + 1 + 1 + 1 < w2.heap.size := z2
 have hS : Box (w2.alloc (.cells #[.int .i64 0] 3)) w2.heap.size [.int .i64 0] 3 := Box.new w2 _ _
 refine wpIn_rangeFunc_ownF rfl (by decide) (gf := 107) (lb := #[.pointer (some ⟨w.heap.size + 1 + 1, 0, none⟩), .pointer (some ⟨w.heap.size + 1 + 1 + 1, 0, none⟩)]) rfl trivial (enters_of Try.func107 (by kernel_rfl) rfl)
  (apart1_stops 5 (by decide) (w.heap.size + 1 + 1) (w.heap.size + 1 + 1 + 1) w2.heap.size n0 _ _ _ _ a0 a1 k0 k1 b0 b1 o0 o1 ma.cells mb.cells (w2.alloc (.cells #[.int .i64 0] 3)) (by simp) (Ba.alloc _) (by omega) (Bb.alloc _) (by omega) (x0.alloc _) x0.lt (x1.alloc _) x1.lt)
  belowK_t (belowK_b (by simp)) (Below.refl _ _) (fun _ => rfl)
  (fun pre W => (W.cell? ⟨w2.heap.size, 0, none⟩ = some (.int .i64 (sqSum pre)) ∧ W.frozen? ⟨w2.heap.size, 0, none⟩ = false) ∧ Below w.heap.size w W)
  (fun _ _ _ => False)
  (OwnFrom.and (Own.from (fun s A B row hs hg hr => ⟨cell_kept hs.1 hg hr, (frozen_kept hs.1 hg hr).trans hs.2⟩) _) (ownFrom_below (by have := hk2.size; first | omega | (simp; omega) | simp) (by have := hk2.size; first | omega | (simp; omega) | simp)))
  (fun _ _ _ _ _ hs _ _ => hs)
  ⟨⟨hS.cell 0, hS.thawed 0⟩, hk2.al _⟩
  (fun x => { tmps := #[.agg #[.int .i64 ma.rows, .int .i64 ma.cols, .slice a0 n0 k0], .agg #[.int .i64 mb.rows, .int .i64 mb.cols, .slice a1 n0 k1], .pointer (some ⟨w.heap.size, 0, none⟩), .pointer (some ⟨w.heap.size + 1, 0, none⟩), .int .i64 0, .nilIface,
   .func (.func 107) #[] #[.pointer (some ⟨w.heap.size + 1 + 1, 0, none⟩), .pointer (some ⟨w.heap.size + 1 + 1 + 1, 0, none⟩)], .nilIface, .pointer (some ⟨w2.heap.size, 0, none⟩), .int .i64 x,
   .tuple #[.func (.func 107) #[] #[.pointer (some ⟨w.heap.size + 1 + 1, 0, none⟩), .pointer (some ⟨w.heap.size + 1 + 1 + 1, 0, none⟩)], .nilIface], .agg #[.int .i64 ma.rows, .int .i64 ma.cols, .slice a0 n0 k0], .agg #[.int .i64 mb.rows, .int .i64 mb.cols, .slice a1 n0 k1],
   .tuple #[.func (.func 107) #[] #[.pointer (some ⟨w.heap.size + 1 + 1, 0, none⟩), .pointer (some ⟨w.heap.size + 1 + 1 + 1, 0, none⟩)], .nilIface], .func (.func 107) #[] #[.pointer (some ⟨w.heap.size + 1 + 1, 0, none⟩), .pointer (some ⟨w.heap.size + 1 + 1 + 1, 0, none⟩)], .nilIface, .nilIface, .bool false, undef,
   .func (.func 107) #[] #[.pointer (some ⟨w.heap.size + 1 + 1, 0, none⟩), .pointer (some ⟨w.heap.size + 1 + 1 + 1, 0, none⟩)], .int .i64 x, undef, undef, undef, undef, undef, undef, undef], defers := [] }) ?assign ?body ?done ?stop
 case assign =>
  intro l x W K hK
  gi_wp2
  exact hK
 case body =>
  rintro l pre x W ⟨⟨hc, hf⟩, hB⟩ _
  have hmx : Try.prog.follows .mixedOrders = true := by kernel_rfl
  gi_wp2
  gi_region_with_o (first | (refine ⟨trivial, ?_⟩; gi_at_call 66; refine (CallsIn.inRound l (callsIn_wide.2 (mul_any _ _ _))).mono ?_; rintro e w' ⟨rfl, rfl⟩) | (refine ⟨trivial, ?_⟩; gi_at_call 31; refine (CallsIn.inRound l (callsIn_wide.2 (add_any _ _ _))).mono ?_; rintro e w' ⟨rfl, rfl⟩))
  all_goals gi_wp2
  all_goals exact ⟨(KeepsOthers.setCell _ _ _).trans (KeepsOthers.drew _), ((Below.refl w2.heap.size W).setCell (p := ⟨w2.heap.size, 0, none⟩) (Nat.le_refl _) _).drew, ⟨by rw [sqSum_snoc]; exact World.cell?_setCell_same' _ _ _ (by rw [hc]; rfl), by rw [frozen_drew_own, World.frozen?_setCell]; exact hf⟩,
   (hB.setCell (p := ⟨w2.heap.size, 0, none⟩) (by have := hk2.size; dsimp only; omega) _).drew⟩
 case done =>
  rintro D l W hD rfl ⟨⟨hc, hf⟩, hB⟩ hK
  gi_wp2_with (refine ⟨trivial, ?_⟩; gi_at_call 66; refine (callsIn_wide.2 (mul_any _ _ _)).mono ?_; rintro e w' ⟨rfl, rfl⟩)
  refine ⟨by simp, .inl ⟨_, _, rfl, run_takeDeferred hK, ?_⟩⟩
  refine ⟨_, results_tmp2 rfl _ _ _, ?_, hB.trans (belowK_b (w := w) (Nat.le_refl _) W D _ _ (by have := hk2.size; simp at hD; omega) hK rfl rfl)⟩
  unfold lossOf
  rw [h0.len]
  rfl
 case stop =>
  rintro D c pre W _ _ h _
  exact h.elim
end Go.Proofs.Ytchngeagnlngaaa
end
section
set_option linter.unusedVariables false
set_option linter.unusedSimpArgs false
namespace Gal
open Go
def cellV (w : World) (b i : Nat) : Value := (w.cell? ⟨b, i, none⟩).getD undef
theorem cellV_eq {w : World} {b i : Nat} {v : Value} (h : w.cell? ⟨b, i, none⟩ = some v) : cellV w b i = v := by unfold cellV; rw [h]; rfl
def layCV (w : World) (b o i : Nat) : Value := .agg #[cellV w b (o + i * 7), cellV w b (o + i * 7 + 1), cellV w b (o + i * 7 + 2), cellV w b (o + i * 7 + 3), cellV w b (o + i * 7 + 4), cellV w b (o + i * 7 + 5), cellV w b (o + i * 7 + 6)]
theorem layCV_eq {w : World} {b o i : Nat} {v0 v1 v2 v3 v4 v5 v6 : Value} (h0 : w.cell? ⟨b, o + i * 7, none⟩ = some v0) (h1 : w.cell? ⟨b, o + i * 7 + 1, none⟩ = some v1) (h2 : w.cell? ⟨b, o + i * 7 + 2, none⟩ = some v2) (h3 : w.cell? ⟨b, o + i * 7 + 3, none⟩ = some v3)
  (h4 : w.cell? ⟨b, o + i * 7 + 4, none⟩ = some v4) (h5 : w.cell? ⟨b, o + i * 7 + 5, none⟩ = some v5) (h6 : w.cell? ⟨b, o + i * 7 + 6, none⟩ = some v6) : layCV w b o i = .agg #[v0, v1, v2, v3, v4, v5, v6] := by
 unfold layCV
 rw [cellV_eq h0, cellV_eq h1, cellV_eq h2, cellV_eq h3, cellV_eq h4, cellV_eq h5, cellV_eq h6]
end Gal
namespace Go.Proofs.Ytchngeagnlngaaa
open Go.RowKit Go.Shelf Gal
attribute [local go_sem] Oper.semAt_some
set_option maxRecDepth 100000
set_option maxHeartbeats 2000000
theorem back1_stops (fn : Nat) (hn : 1 ≤ fn) (q : Nat) (S : Nat → Prop) (ls : List Lay) (F : Nat → Prop) (a : Option Addr) (n k b o : Nat) (w : World)
  (hq : Box w q [.slice a n k] 22) (hSq : ¬ S q) (h : RowAt Form.lay w F a n k b o ls) (hSb : 0 < n → ¬ S b) :
  SeqStopsK Fence.wide fn Try.prog 108 #[.pointer (some ⟨q, 0, none⟩)] (fun x : Fin n => #[Value.int .i64 x.val, layCV w b o x.val]) (Far S)
   (fun l => l.map (fun x => x.val) = descs n n) (fun l => ∃ t, t < n ∧ l.map (fun x => x.val) = descs n (t + 1)) n w := fun l J Jx W hW _ _ hY hJ0 => by
 have hmx := h.max
 unfold maxLen at hmx
 have Bq := hq.keep hW
 have HY := Lib.hid hY
 clear hY
 have Bqc := Bq.cell 0
 refine callsIn_of_wp Try.func108 rfl trivial ?_ rfl
 simp only [Try.ntmps108, List.size_toArray, List.length_cons, List.length_nil, Nat.reduceAdd, Nat.reduceSub, Array.replicate_succ, Array.replicate_zero, List.push_toArray, List.append_toArray, List.nil_append, List.cons_append]
 gi_wp2
 gi_loopw [3] (fun i wr => ∃ t : Nat, t ≤ n ∧ i = .int .i64 ((n : Int) - 1 - t) ∧ (∃ pre : List (Fin n), pre.map (fun x => x.val) = descs n t ∧ J pre wr) ∧ Far S W wr) (fun i _ => (intOf i + 1).toNat)
 case atStart => exact ⟨0, Nat.zero_le _, by simp, ⟨[], rfl, hJ0⟩, Far.refl _ _⟩
 case round =>
  obtain ⟨t, ht, rfl, ⟨pre, hpre, hJs⟩, hnx⟩ := hrel
  have HPRE := Lib.hid hpre
  have hpl : pre.length = t := by have := congrArg List.length hpre; rw [List.length_map, descs_length] at this; exact this
  have HPL := Lib.hid hpl
  clear hpre hpl
  have HJ := Lib.hid hJs
  clear hJs
  have Bqr := (Bq.farS hnx hSq).cell 0
  by_cases hlt : t < n
  ·have hN : 0 < n := by omega
   obtain rfl := h.ptr hN
   obtain ⟨m, hm⟩ : ∃ m : Nat, n = t + 1 + m := ⟨n - (t + 1), by omega⟩
   have hmn : m < n := by omega
   have hmI : (n : Int) - 1 - t = (m : Int) := by omega
   have hd : n - 1 - t = m := by omega
   obtain ⟨a4, n4, k4, b4, o4, a5, n5, k5, b5, o5, c0, c1, c2, c3, c4, c5, c6, x4, x5⟩ := lay_cells h hmn
   have hV := layCV_eq c0 c1 c2 c3 c4 c5 c6
   have hkeep : ∀ {i : Nat} {v : Value}, w.cell? ⟨b, i, none⟩ = some v → wr.cell? ⟨b, i, none⟩ = some v := fun {i} {v} e => (World.cell?_of_block (a := ⟨b, i, none⟩) (hnx.block b (Nat.lt_of_lt_of_le (h.lt hN) hW.size) (hSb hN))).trans ((hW.cell (p := ⟨b, i, none⟩) (h.lt hN)).trans e)
   replace c0 := hkeep c0
   replace c1 := hkeep c1
   replace c2 := hkeep c2
   replace c3 := hkeep c3
   replace c4 := hkeep c4
   replace c5 := hkeep c5
   replace c6 := hkeep c6
   obtain ⟨fn, tmps, assign, body, hy', hR⟩ := HY.out _ (⟨m, hmn⟩ : Fin n) wr HJ.out (by rw [HPL.out]; exact hlt)
   have HNX : Hid ((pre ++ [(⟨m, hmn⟩ : Fin n)]).map (fun x => x.val) = descs n (t + 1)) := Lib.hid (by rw [List.map_append, HPRE.out, descs_succ, hd]; rfl)
   dsimp only at hy'
   rw [hV] at hy'
   have HR := Lib.hid hR
   have HD := Lib.hid hd
   have HM := Lib.hid hm
   have h0m : (0 : Int) ≤ (m : Int) := by omega
   have hlm : (m : Int) < (n : Int) := by omega
   rw [hmI]
   clear hR hkeep hV x4 x5 hd hm hmI
   gi_wp2
   refine HR.out.mono ?_
   rintro e W3 (⟨rfl, hJ3, hk3⟩ | ⟨rfl, hJx3⟩)
   ·have HJ3 := Lib.hid hJ3
    clear hJ3
    gi_wp2
    go_roundw
    case rel => exact ⟨t + 1, by omega, by congr 1; have := HM.out; omega, ⟨_, HNX.out, HJ3.out⟩, hnx.trans hk3⟩
    case measure => simp [intOf]
   ·gi_wp2
    refine bodyPost_ret (results_none rfl _ _ _) rfl ?_
    exact ⟨⟨_, rfl⟩, .inr ⟨_, ⟨t, hlt, HNX.out⟩, hJx3⟩⟩
  ·have htn : t = n := by omega
   have hmI : (n : Int) - 1 - t = -1 := by omega
   rw [hmI]
   have HN2 : Hid (pre.map (fun x => x.val) = descs n n) := Lib.hid (by rw [HPRE.out, htn])
   clear hmI htn
   gi_wp2
   go_end0
   exact ⟨⟨_, rfl⟩, .inl ⟨_, HN2.out, HJ.out⟩⟩
end Go.Proofs.Ytchngeagnlngaaa
end
section
set_option linter.unusedVariables false
set_option linter.unusedSimpArgs false
namespace Gal
open Go Go.RowKit
def Book (k : Nat) (r : Loop) (W : World) : Prop := W.heap[k + 1]? = some (.loop r) ∧ W.heap[k]? = some (.deferred (some []))
theorem Book.grown {k : Nat} {r : Loop} {A B : World} {row : Option Nat} (h : Book k r A) (hg : A.grownBy B row) (hr : ∀ j, row = some j → ∃ o : Obj, A.heap[j]? = some o ∧ o.isWalk = true) : Book k r B :=
 ⟨(grownBy_keeps hg hr h.1 rfl).trans h.1, (grownBy_keeps hg hr h.2 rfl).trans h.2⟩
theorem Book.put {k : Nat} {r : Loop} {W : World} (h : Book k r W) (r' : Loop) : Book k r' (W.putObj (k + 1) (.loop r')) :=
 ⟨World.putObj_heap_same (Array.getElem?_eq_some_iff.1 h.1).1, (World.putObj_heap_other (by omega)).trans h.2⟩
theorem Book.kept {k : Nat} {r : Loop} {A B : World} (h : Book k r A) (hk : KeepsFrom k A B) : Book k r B := ⟨hk.same _ _ (by omega) h.1 rfl, hk.same _ _ (Nat.le_refl _) h.2 rfl⟩
def roundEnds {α : Type} (B : Nat) (Kp : World → World → Prop) (I Ix : List α → World → Prop) (xs : List α) (W : World) : Exit → Act → World → Prop
 | .normal, _, W' => KeepsFrom B W W' ∧ Kp W W' ∧ I xs W'
 | .ret, _, W' => KeepsFrom B W W' ∧ Ix xs W'
 | _, _, _ => False
section
variable {F : Fence} {n : Nat} {P : Program}
theorem wpIn_range_boxed {α : Type} {g : Operand} {ps : Array Tmp} {assign body : Code} {Q : Exit → Act → World → Prop} {a : Act} {w : World}
  (hro : F.round = none) (h1 : 1 ≤ n) {gf : Nat} {lb : Array Value} (hg : a.eval g = .func (.func gf) #[] lb) (hFg : F.fn gf) (eg : ∀ args w, (callFunc gf args).run P w = .ok (.enter gf args) w)
  {encs : α → Array Value} {Kp : World → World → Prop} {S Sp : List α → Prop} {N : Nat} {w0 : World} (hseq : SeqStopsK F (n - 1) P gf lb encs Kp S Sp N w0)
  (hKt : ∀ {A B C : World}, Kp A B → Kp B C → Kp A C) (hKb : ∀ (W : World) (l : Nat) (o o' : Obj), w.heap.size ≤ l → W.heap[l]? = some o → o.isCells = false → o.isWalk = false → Kp W (W.putObj l o')) (hb0 : Below w0.heap.size w0 w) (hps : ∀ x, (encs x).size = ps.size)
  (I Ix : List α → World → Prop) (IA : α → Act → List α → World → Prop) (hI : OwnFrom w.heap.size I) (hIx : OwnFrom w.heap.size Ix) (hIA : ∀ x b, OwnFrom w.heap.size (IA x b)) (h0 : I [] w)
  (hassign : ∀ (l : Nat) (pre : List α) (x : α) (W : World), I pre W → pre.length < N →
   assign.wpIn (F.inRound l) (n - 1 - 1) P (Exit.then (fun b W' => KeepsFrom w.heap.size W W' ∧ Kp W W' ∧ IA x b pre W') (fun _ _ _ => False)) { tmps := (ps.zip (encs x)).foldl (fun t (p, v) => t.setIfInBounds p v) a.tmps, defers := [] } W)
  (hbody : ∀ (l : Nat) (pre : List α) (x : α) (b : Act) (W : World), IA x b pre W → pre.length < N → body.wpIn (F.inRound l) (n - 1 - 1) P (roundEnds w.heap.size Kp I Ix (pre ++ [x]) W) b W)
  (hdone : ∀ (D : Nat) (xs : List α) (W : World), w.heap.size ≤ D → S xs → I xs W → W.heap[D]? = some (.deferred (some [])) → Q .normal { a with defers := { target := .collected D, args := #[] } :: a.defers } W)
  (hstop : ∀ (D : Nat) (pre : List α) (W : World), w.heap.size ≤ D → Sp pre → Ix pre W → W.heap[D]? = some (.deferred (some [])) → Code.ret.wpIn F n P Q { a with defers := { target := .collected D, args := #[] } :: a.defers } W) :
  (Code.rangeFunc g ps assign body).wpIn F n P Q a w := by
 refine wpIn_rangeFunc fun fn hfn => ?_
 rw [hro]
 obtain ⟨rc, hrc⟩ : ∃ rc : LoopState → Option Code → Loop, rc = fun st pe => { state := st, pending := pe, fn, tmps := a.tmps, params := ps, assign, body, defers := w.heap.size } := ⟨_, rfl⟩
 obtain ⟨W1, hW1⟩ : ∃ W1, (w.alloc (.deferred (some []))).alloc (.loop (rc .ready none)) = W1 := ⟨_, rfl⟩
 have hz1 : W1.heap.size = w.heap.size + 1 + 1 := by rw [← hW1]; simp
 have bk1 : Book w.heap.size (rc .ready none) W1 := by
  rw [← hW1]
  refine ⟨?_, (Below.heap_alloc _ _ _ (by simp)).trans (World.alloc_heap_new w _)⟩
  have := World.alloc_heap_new (w.alloc (.deferred (some []))) (.loop (rc .ready none))
  rwa [World.size_alloc] at this
 have i1 : I [] W1 := by rw [← hW1]; exact hI.alloc _ (hI.alloc _ h0)
 have b1 : Below w0.heap.size w0 W1 := by rw [← hW1]; exact hb0.trans ((((Below.refl _ w).alloc (Nat.le_refl _) _).alloc (by simp) _).mono hb0.size)
 refine ⟨w.heap.size + 1, [{ target := .collected w.heap.size, args := #[] }], W1, { target := .fn (.func gf) lb, args := #[.func (.yield (w.heap.size + 1)) #[] #[]] }, W1, gf, #[.func (.yield (w.heap.size + 1)) #[] #[]] ++ lb, W1, ?_, ?_, ?_, ?_, fun _ => h1, ?_⟩
 ·rw [← hW1, hrc]; exact run_enterLoop_outer _ _ _ _ _
 ·simp only [resolve, hg]; simp [go_sem]
 ·intro f' hf'; simp [Target.leads] at hf'; subst hf'; exact hFg
 ·simp [invoke, go_sem, eg]
 have far : ∀ {A : World} {row : Option Nat}, (∀ r, row = some r → W1.heap.size ≤ r ∧ ∃ o : Obj, A.heap[r]? = some o ∧ o.isWalk = true) → ∀ r, row = some r → w.heap.size ≤ r ∧ ∃ o : Obj, A.heap[r]? = some o ∧ o.isCells = false := fun hr r e => by
  obtain ⟨hB, o, ho, hw⟩ := hr r e
  exact ⟨by omega, o, ho, Obj.not_cells_of_walk hw⟩
 refine (hseq (w.heap.size + 1) (fun pre W => I pre W ∧ Book w.heap.size (rc .ready none) W) (fun pre W => Ix pre W ∧ Book w.heap.size (rc .done (some .ret)) W) W1 b1
  (fun s A B row hs hg' hr => ⟨hI s A B row hs.1 hg' (far hr), hs.2.grown hg' (fun r e => (hr r e).2)⟩)
  (fun s A B row hs hg' hr => ⟨hIx s A B row hs.1 hg' (far hr), hs.2.grown hg' (fun r e => (hr r e).2)⟩) ?_ ⟨i1, bk1⟩).mono ?_
 ·rintro pre x W ⟨hi, bk⟩ hlen
  have hy := run_yield (P := P) (args := encs x) bk.1 (by rw [hrc]; exact hps x)
  rw [hrc] at hy
  refine ⟨fn, _, assign, body, hy, roundIn_of_wpIn hfn (wpIn_mono (hassign _ pre x W hi hlen) ?_)⟩
  rintro e b W' hp
  cases e with
  | normal =>
   obtain ⟨k1, p1, ia⟩ := hp
   have bk' := bk.kept k1
   refine ⟨_, run_beginRound bk'.1 (by rw [hrc]), ?_⟩
   have bk2 := bk'.put { rc .ready none with state := .busy }
   refine wpIn_mono (hbody _ pre x b _ ((hIA x b).putObj _ ia (by omega) bk'.1 rfl) hlen) ?_
   have p2 : Kp W' _ := hKb W' (w.heap.size + 1) _ (.loop { rc .ready none with state := .busy }) (by omega) bk'.1 rfl rfl
   have fin : ∀ (jump : Option Code) (W3 : World), Book w.heap.size { rc .ready none with state := .busy } W3 →
     (Instr.endRound (w.heap.size + 1) jump).run P W3 = .ok (.bool jump.isNone) (W3.putObj (w.heap.size + 1) (.loop (rc (if jump.isNone then .ready else .done) jump))) := fun jump W3 b3 => by
    have := run_endRound (P := P) jump b3.1
    rw [hrc] at this ⊢
    exact this
   rintro e3 a3 W3 hq
   cases e3 with
   | normal =>
    obtain ⟨k3, p3, i3⟩ := hq
    have b3 := bk2.kept k3
    exact ⟨_, _, fin none W3 b3, .inl ⟨rfl, ⟨hI.putObj _ i3 (by omega) b3.1 rfl, b3.put _⟩, hKt p1 (hKt p2 (hKt p3 (hKb _ _ _ _ (by omega) b3.1 rfl rfl)))⟩⟩
   | ret =>
    obtain ⟨k3, i3⟩ := hq
    have b3 := bk2.kept k3
    exact ⟨_, _, fin (some .ret) W3 b3, .inr ⟨rfl, hIx.putObj _ i3 (by omega) b3.1 rfl, b3.put _⟩⟩
   | _ => exact hq.elim
  | _ => exact hp.elim
 ·rintro e W2 ⟨⟨v, rfl⟩, (⟨xs, hS, hi, bk⟩ | ⟨pre, hSp, hi, bk⟩)⟩
  ·have hr := run_endLoop (P := P) bk.1 (by rw [hrc]; simp)
   rw [hrc] at hr
   exact ⟨none, _, hr, hdone _ xs _ (Nat.le_refl _) hS (hI.putObj _ hi (by omega) bk.1 rfl) ((World.putObj_heap_other (by omega)).trans bk.2)⟩
  ·have hr := run_endLoop (P := P) bk.1 (by rw [hrc]; simp)
   rw [hrc] at hr
   exact ⟨some .ret, _, hr, hstop _ pre _ (Nat.le_refl _) hSp (hIx.putObj _ hi (by omega) bk.1 rfl) ((World.putObj_heap_other (by omega)).trans bk.2)⟩
end
end Gal
end
