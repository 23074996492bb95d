/- Texts joined: Train4. -/
import Derived.Test.YtchngeagnlngaaaJ29
import Derived.Test.YtchngeagnlngaaaJ33
import Derived.Test.YtchngeagnlngaaaJ26
import Derived.Test.YtchngeagnlngaaaJ35
section
set_option linter.unusedVariables false
set_option linter.unusedSimpArgs false
set_option linter.unusedSectionVars false
set_option maxRecDepth 100000
namespace Gal
open Go Go.RowKit
theorem box7_all {w : World} {b : Nat} {t : TypeId} {v0 v1 v2 v3 v4 v5 v6 : Value} (h : Box w b [v0, v1, v2, v3, v4, v5, v6] t) :
  w.cell? ⟨b, 0, none⟩ = some v0 ∧ w.cell? ⟨b, 1, none⟩ = some v1 ∧ w.cell? ⟨b, 2, none⟩ = some v2 ∧ w.cell? ⟨b, 3, none⟩ = some v3 ∧ w.cell? ⟨b, 4, none⟩ = some v4 ∧ w.cell? ⟨b, 5, none⟩ = some v5 ∧ w.cell? ⟨b, 6, none⟩ = some v6 := ⟨h.cell 0, h.cell 1, h.cell 2, h.cell 3, h.cell 4, h.cell 5, h.cell 6⟩
end Gal
namespace Go.Proofs.Ytchngeagnlngaaa
open Go.RowKit Gal
set_option maxHeartbeats 8000000
theorem trainClone_any (m : Mat) (va : Value) (w : World) (ha : MatAt w va m) (hn : m.cells.length * 8 ≤ 140737488355328) :
  Calls Try.prog 58 #[va] w fun e w' => ∃ v, e = .returned v ∧ MatNew w.heap.size w' v m ∧ Below w.heap.size w w' := by
 obtain ⟨a0, n0, k0, b0, o0, rfl, x0⟩ := ha
 have hl := x0.len
 have HN : Hid (n0 * 8 ≤ 140737488355328) := Lib.hid (by omega)
 clear hn hl
 go_enter Try.func58, Try.ntmps58
 go_wp2_with fail
 refine (clone_any a0 n0 k0 b0 o0 m.cells _ (x0.alloc _ |>.alloc _) HN.out).mono ?_
 rintro e w1 ⟨a1, k1, b1, rfl, hbb, y1, hb1⟩
 have B1 := ((show Box _ w.heap.size [.int .i64 m.rows, .int .i64 m.cols, .slice a0 n0 k0] 28 from Box.x0)).keep hb1
 have B1c := B1.cell
 have B1f := B1.thawed
 have B1z := B1.lt
 have B1k := lt_add B1z
 have B2 := ((show Box _ (w.heap.size + 1) [.int .i64 0, .int .i64 0, .slice none 0 0] 28 from Box.x0)).keep hb1
 have B2c := B2.cell
 have B2f := B2.thawed
 have B2z := B2.lt
 have B2k := lt_add B2z
 simp at hbb
 have l1 : 0 < n0 → w.heap.size + 1 < b1 := fun h => by have := hbb h; omega
 go_wp2
 refine bodyPost_ret (v := .agg #[.int .i64 m.rows, .int .i64 m.cols, .slice a1 n0 k1]) (by simp [results, Try.results58, go_sem, B2c, B1c, B2z, B1z]) rfl ⟨_, rfl, MatNew.mk (b := b1) (off := 0) (fun h => by have := l1 h; omega) (by repeat (first | (with_reducible first | exact y1 | refine IntsAt.alloc ?_ _ | refine IntsAt.drewN ?_ _ | refine IntsAt.drew ?_ | (refine IntsAt.set ?_ ?_ _; rotate_left 1; (intro h0; have hq0 := l1 h0; first | (dsimp only; omega) | omega | (simp; omega) | simp))) | exact y1)), (Below.x1 hb1)⟩
def newBut (base n b1 b : Nat) : Prop := base ≤ b ∧ (0 < n → b ≠ b1)
def StaLoose (base : Nat) (w : World) (v : Value) (s : Sta) : Prop := ∃ a0 n k0 b0 a1 n1 k1 b1, v = .agg #[.slice a0 n k0, .slice a1 n1 k1, .int .i64 s.steps] ∧ RowAt Form.lay w (newBut base n1 b1) a0 n k0 b0 0 s.N ∧ RowAt Form.grd w (newB base) a1 n1 k1 b1 0 s.V ∧ Loose w base n1 b1
theorem StaLoose.new {base : Nat} {w : World} {v : Value} {s : Sta} (h : StaLoose base w v s) : StaNew base w v s := by
 obtain ⟨a0, n, k0, b0, a1, n1, k1, b1, e, h1, h2, _⟩ := h
 exact ⟨a0, n, k0, b0, a1, n1, k1, b1, e, h1.wide (fun _ h _ => h.1), h2⟩
theorem trainBegin_loose (ls : List Lay) (F : Nat → Prop) (a : Option Addr) (n k b o : Nat) (w : World) (h : RowAt Form.lay w F a n k b o ls) (hm : ∀ i, i < n → (lx ls i).W.cells.length * 8 ≤ 140737488355328 ∧ (lx ls i).B.cells.length * 8 ≤ 140737488355328) (hn : n * 88 ≤ 140737488355328) :
  Calls Try.prog 23 #[.slice a n k] w fun e w' => ∃ v, e = .returned v ∧ Below w.heap.size w w' ∧ StaLoose w.heap.size w' v ⟨ls, zeroNet ls, 0⟩ := by
 obtain ⟨i0, hi, hz0, hz1, hz2⟩ := info_parts info_layer
 have hl := h.len
 have HM := Lib.hid hm
 have HTT : Hid (∀ t, t < n → ls.take (t + 1) = ls.take t ++ [lx ls t]) := Lib.hid fun t ht => by
  rw [List.take_add_one, lx_get (by rw [hl]; exact ht)]
  rfl
 have HLEN : Hid (∀ t, t ≤ n → (ls.take t).length = t) := Lib.hid fun t ht => by rw [List.length_take, hl]; omega
 have HALL : Hid (ls.take n = ls) := Lib.hid (by rw [← hl]; exact List.take_length)
 have HN := Lib.hid hn
 have hn1 : n ≤ 9223372036854775807 := by omega
 obtain ⟨w0, hw0⟩ : ∃ w0, w.alloc (.cells #[.slice none 0 0, .slice none 0 0, .int .i64 0] 34) = w0 := ⟨_, rfl⟩
 have R0 : Box w0 w.heap.size [.slice none 0 0, .slice none 0 0, .int .i64 0] 34 := by rw [← hw0]; exact Box.new _ _ _
 have hb0 : Below w.heap.size w w0 := by rw [← hw0]; exact Below.x0
 have h0 := h.keep hb0
 have HW0 := Lib.hid hw0
 clear hm hl h hw0
 go_enter Try.func23, Try.ntmps23
 go_wp2_with fail
 rw [HW0.out]
 refine (netZero_loose ls F a n k b o w0 h0 HM.out (by omega)).mono ?_
 rintro e w1 ⟨aZ, kZ, bZ, rfl, hb1, rZ, lZ⟩
 have R1 := R0.keep hb1
 have h1 := h0.keep hb1
 have hbw1 : Below w.heap.size w w1 := hb0.trans (hb1.mono hb0.size)
 obtain ⟨p, hp⟩ : ∃ p, w1.heap.size = p := ⟨_, rfl⟩
 have HBZ : Hid (0 < n → bZ < p) := Lib.hid (fun hn => by rw [← hp]; exact heap_lt (lZ hn).2.choose_spec)
 have hwp : w.heap.size < p := by have := R1.lt; omega
 have hzp : w0.heap.size ≤ p := by have := hb1.size; omega
 obtain ⟨w2, hw2⟩ : ∃ w2, w1.alloc (.cells #[.slice none 0 0, .slice aZ n kZ, .int .i64 0] 34) = w2 := ⟨_, rfl⟩
 have S2 : Box w2 p [.slice none 0 0, .slice aZ n kZ, .int .i64 0] 34 := by rw [← hw2, ← hp]; exact Box.new _ _ _
 have hb2 : Below p w1 w2 := by rw [← hw2, ← hp]; exact Below.x0
 have HW2 := Lib.hid hw2
 have HP := Lib.hid hp
 have R0z := R0.lt
 clear hn hw2 hp R0 h0 hb1
 go_wp2
 rw [HP.out, HW2.out]
 go_loopw [11] (fun i wr => ∃ (t : Nat) (u : Value), t ≤ n ∧ i = .int .i64 t ∧ Box wr p [u, .slice aZ n kZ, .int .i64 0] 34 ∧ OwnRow Form.lay 69 wr p (newB (p + 1)) u (ls.take t) ∧ u.ownBlock ≠ some p ∧ Below p w1 wr) (fun i _ => n - (intOf i).toNat)
 case atStart => exact ⟨0, _, Nat.zero_le _, rfl, S2, OwnRow.nil _ _ _ _ _, by simp [Value.ownBlock], hb2⟩
 case round =>
  obtain ⟨t, u, ht, rfl, BS, hown, hne, hbr⟩ := hrel
  have hbr1 : Below w1.heap.size w1 wr := by rw [HP.out]; exact hbr
  by_cases hlt : t < n
  ·obtain rfl := h1.ptr (by omega)
   obtain ⟨a4, n4, k4, b4, o4, a5, n5, k5, b5, o5, c0, c1, c2, c3, c4, c5, c6, x4, x5⟩ := lay_cells (h1.keep hbr1) hlt
   have hs4 : n4 * 8 ≤ 140737488355328 := by have := (HM.out t hlt).1; rw [x4.len] at this; exact this
   have hs5 : n5 * 8 ≤ 140737488355328 := by have := (HM.out t hlt).2; rw [x5.len] at this; exact this
   obtain ⟨d, hd⟩ : ∃ d, d = lx ls t := ⟨_, rfl⟩
   rw [← hd] at c0 c1 c2 c4 c5 x4 x5
   have HD := Lib.hid hd
   clear hd
   have BX := Box.new wr [.int .i64 d.kind, .int .i64 d.W.rows, .int .i64 d.W.cols, .slice a4 n4 k4, .int .i64 d.B.rows, .int .i64 d.B.cols, .slice a5 n5 k5] 69
   have hal : Below wr.heap.size wr (wr.alloc (.cells #[.int .i64 d.kind, .int .i64 d.W.rows, .int .i64 d.W.cols, .slice a4 n4 k4, .int .i64 d.B.rows, .int .i64 d.B.cols, .slice a5 n5 k5] 69)) := Below.x0
   replace x4 := x4.keep hal
   replace x5 := x5.keep hal
   have HTK := HTT.out t hlt
   obtain ⟨L, hL⟩ : ∃ L, ls.take t = L := ⟨_, rfl⟩
   have HLL : Hid (L.length = t) := Lib.hid (by rw [← hL]; exact HLEN.out t (by omega))
   rw [hL] at hown HTK
   replace HTK : Hid (ls.take (t + 1) = L ++ [d]) := Lib.hid (by rw [HTK, ← HD.out])
   clear hL
   obtain ⟨av, cv, hsv⟩ := hown.slice
   rw [HLL.out] at hsv
   subst hsv
   have HOB := Lib.hid hown.base_le
   have hpz := BS.lt
   have HQP : Hid (wr.heap.size ≠ p) := Lib.hid (by omega)
   have S0 : (wr.alloc (.cells #[.int .i64 d.kind, .int .i64 d.W.rows, .int .i64 d.W.cols, .slice a4 n4 k4, .int .i64 d.B.rows, .int .i64 d.B.cols, .slice a5 n5 k5] 69)).drew.cell? ⟨p, 0, none⟩ = some (.slice av t cv) := (show Box _ p [.slice av t cv, .slice aZ n kZ, .int .i64 0] 34 from BS.k).cell 0
   go_wp2_with fail
   refine wp_region_noPanic ?_
   refine wp_region_held_drew (S := (fun w' => w'.cell? ⟨wr.heap.size, 0, none⟩ = some (.int .i64 d.kind) ∧ w'.cell? ⟨wr.heap.size, 1, none⟩ = some (.int .i64 d.W.rows) ∧ w'.cell? ⟨wr.heap.size, 2, none⟩ = some (.int .i64 d.W.cols) ∧ w'.cell? ⟨wr.heap.size, 3, none⟩ = some (.slice a4 n4 k4) ∧ w'.cell? ⟨wr.heap.size, 4, none⟩ = some (.int .i64 d.B.rows) ∧ w'.cell? ⟨wr.heap.size, 5, none⟩ = some (.int .i64 d.B.cols) ∧ w'.cell? ⟨wr.heap.size, 6, none⟩ = some (.slice a5 n5 k5))) (by kernel_rfl) ?_ (fun hHeld => ?_)
   ·exact box7_all (t := 69) BX.k
   -- REGION
   refine held_take (i := 0) (v := ?_) rfl (by kernel_rfl) (by kernel_rfl) (by kernel_rfl) (fun _ _ _ h => h) (Or.inl ⟨by rfl, ?_⟩) (by assumption) ?_
   rotate_left 1
   ·intro w hSw
    (try dsimp only at hSw)
    go_simp
    (try with_reducible rfl)
   (try simp only [Act.put, List.setIfInBounds_toArray, List.set_cons_zero, List.set_cons_succ])
   refine held_take (i := 2) (v := ?_) rfl (by kernel_rfl) (by kernel_rfl) (by kernel_rfl) (fun _ _ _ h => h) (Or.inl ⟨by rfl, ?_⟩) (by assumption) ?_
   rotate_left 1
   ·intro w hSw
    (try dsimp only at hSw)
    go_simp
    (try with_reducible rfl)
   (try simp only [Act.put, List.setIfInBounds_toArray, List.set_cons_zero, List.set_cons_succ])
   refine held_take (i := 3) (v := ?_) rfl (by kernel_rfl) (by kernel_rfl) (by kernel_rfl) (fun _ _ _ h => h) (Or.inl ⟨by rfl, ?_⟩) (by assumption) ?_
   rotate_left 1
   ·intro w hSw
    (try dsimp only at hSw)
    go_simp
    (try with_reducible rfl)
   (try simp only [Act.put, List.setIfInBounds_toArray, List.set_cons_zero, List.set_cons_succ])
   refine held_take (i := 4) (v := ?_) rfl (by kernel_rfl) (by kernel_rfl) (by kernel_rfl) (fun _ _ _ h => h) (Or.inl ⟨by rfl, ?_⟩) (by assumption) ?_
   rotate_left 1
   ·intro w hSw
    (try dsimp only at hSw)
    go_simp
    (try with_reducible rfl)
   (try simp only [Act.put, List.setIfInBounds_toArray, List.set_cons_zero, List.set_cons_succ])
   refine held_take (i := 5) (v := ?_) rfl (by kernel_rfl) (by kernel_rfl) (by kernel_rfl) (fun _ _ _ h => h) (Or.inl ⟨by rfl, ?_⟩) (by assumption) ?_
   rotate_left 1
   ·intro w hSw
    (try dsimp only at hSw)
    go_simp
    (try with_reducible rfl)
   (try simp only [Act.put, List.setIfInBounds_toArray, List.set_cons_zero, List.set_cons_succ])
   refine held_take (i := 7) (v := ?_) rfl (by kernel_rfl) (by kernel_rfl) (by kernel_rfl) (fun _ _ _ h => h) (Or.inl ⟨by rfl, ?_⟩) (by assumption) ?_
   rotate_left 1
   ·intro w hSw
    (try dsimp only at hSw)
    go_simp
    (try with_reducible rfl)
   (try simp only [Act.put, List.setIfInBounds_toArray, List.set_cons_zero, List.set_cons_succ])
   refine held_take (i := 8) (v := ?_) rfl (by kernel_rfl) (by kernel_rfl) (by kernel_rfl) (fun _ _ _ h => h) (Or.inl ⟨by rfl, ?_⟩) (by assumption) ?_
   rotate_left 1
   ·intro w hSw
    (try dsimp only at hSw)
    go_simp
    (try with_reducible rfl)
   (try simp only [Act.put, List.setIfInBounds_toArray, List.set_cons_zero, List.set_cons_succ])
   refine wpAnyH_ready (rs := [1, 6]) (by kernel_rfl) (by simp) ?_
   refine held_cons rfl (fun K hK => ?_) ?_
   ·go_simp
    refine hK.out _ _ ?_ (fun hHeld => ?_)
    ·exact box7_all (t := 69) (show Box _ wr.heap.size [.int .i64 d.kind, .int .i64 d.W.rows, .int .i64 d.W.cols, .slice a4 n4 k4, .int .i64 d.B.rows, .int .i64 d.B.cols, .slice a5 n5 k5] 69 from BX.k)
    clear hK K
    try simp only [Act.put, List.setIfInBounds_toArray, List.set_cons_zero, List.set_cons_succ]
    refine wpAnyH_ready (rs := [6]) (by kernel_rfl) (by simp) ?_
    refine held_cons rfl (fun K hK => ?_) ?_
    ·go_simp
     refine (trainClone_any d.W _ _ (MatAt.mk (show IntsAt _ a4 n4 k4 b4 o4 d.W.cells from x4.k)) (by rw [x4.len]; exact hs4)).mono ?_
     rintro e w7 ⟨v7, rfl, ⟨a7, n7, k7, b7, o7, rfl, hn7, x7⟩, hb7⟩
     have BS7 : Box w7 p [.slice av t cv, .slice aZ n kZ, .int .i64 0] 34 := (by first | exact BS.k1 hb7 | exact BS.k)
     have S7 := BS7.cell 0
     have Z7 := BS7.lt
     go_wp2_with fail
     refine hK.out _ _ ?_ (fun hHeld => ?_)
     ·exact box7_all (t := 69) (show Box _ wr.heap.size [.int .i64 d.kind, .int .i64 d.W.rows, .int .i64 d.W.cols, .slice a4 n4 k4, .int .i64 d.B.rows, .int .i64 d.B.cols, .slice a5 n5 k5] 69 from (by first | exact BX.k1 hb7 | exact BX.k))
     clear hK K
     try simp only [Act.put, List.setIfInBounds_toArray, List.set_cons_zero, List.set_cons_succ]
     refine wpAnyH_ready (rs := [9]) (by kernel_rfl) (by simp) ?_
     refine held_cons rfl (fun K hK => ?_) ?_
     ·go_simp
      refine (trainClone_any d.B _ _ (MatAt.mk (show IntsAt _ a5 n5 k5 b5 o5 d.B.cells from (by first | exact x5.k1 hb7 | exact x5.k))) (by rw [x5.len]; exact hs5)).mono ?_
      rintro e w8 ⟨v8, rfl, ⟨a8, n8, k8, b8, o8, rfl, hn8, x8⟩, hb8⟩
      have BS8 : Box w8 p [.slice av t cv, .slice aZ n kZ, .int .i64 0] 34 := (by repeat (first | (with_reducible first | exact BS | refine Box.alloc ?_ _ | refine Box.drewN ?_ _ | refine Box.drew ?_ | refine Box.fx ?_ _ | refine Box.keep ?_ hb8 | refine Box.keep ?_ hb7) | exact BS))
      have S8 := BS8.cell 0
      have Z8 := BS8.lt
      go_wp2_with fail
      refine hK.out _ _ ?_ (fun hHeld => ?_)
      ·exact box7_all (t := 69) (show Box _ wr.heap.size [.int .i64 d.kind, .int .i64 d.W.rows, .int .i64 d.W.cols, .slice a4 n4 k4, .int .i64 d.B.rows, .int .i64 d.B.cols, .slice a5 n5 k5] 69 from (by repeat (first | (with_reducible first | exact BX | refine Box.alloc ?_ _ | refine Box.drewN ?_ _ | refine Box.drew ?_ | refine Box.fx ?_ _ | refine Box.keep ?_ hb8 | refine Box.keep ?_ hb7) | exact BX)))
      clear hK K
      try simp only [Act.put, List.setIfInBounds_toArray, List.set_cons_zero, List.set_cons_succ]
      refine held_take (i := 10) (v := ?_) rfl (by kernel_rfl) (by kernel_rfl) (by kernel_rfl) (fun _ _ _ h => h) (Or.inl ⟨by rfl, ?_⟩) (by assumption) ?_
      rotate_left 1
      ·intro w hSw
       (try dsimp only at hSw)
       go_simp
       (try with_reducible rfl)
      (try simp only [Act.put, List.setIfInBounds_toArray, List.set_cons_zero, List.set_cons_succ])
      refine wpAnyH_ready (rs := [11]) (by kernel_rfl) (by simp) ?_
      refine held_cons rfl (fun K hK => ?_) ?_
      ·go_simp
       refine hK.out _ _ ?_ (fun hHeld => ?_)
       ·exact box7_all (t := 69) (show Box _ wr.heap.size [.int .i64 d.kind, .int .i64 d.W.rows, .int .i64 d.W.cols, .slice a4 n4 k4, .int .i64 d.B.rows, .int .i64 d.B.cols, .slice a5 n5 k5] 69 from (by repeat (first | (with_reducible first | exact BX | refine Box.alloc ?_ _ | refine Box.drewN ?_ _ | refine Box.drew ?_ | refine Box.fx ?_ _ | refine Box.keep ?_ hb8 | refine Box.keep ?_ hb7) | exact BX)))
       clear hK K
       try simp only [Act.put, List.setIfInBounds_toArray, List.set_cons_zero, List.set_cons_succ]
       refine wpAnyH_ready (rs := [12]) (by kernel_rfl) (by simp) ?_
       refine held_cons rfl (fun K hK => ?_) ?_
       ·refine at_oper ⟨some 27, _, _, _, _, _⟩ ?_
        have hb8' := hb8
        have q7 := hb7.size
        have q8 := hb8.size
        have q1 : 0 < n7 → p < b7 := by intro h; have := hn7 h; simp at this; omega
        have q2 : 0 < n8 → p < b8 := by intro h; have := hn8 h; simp at this q7; omega
        have q4 : (L.length + 1) * 88 ≤ 140737488355328 := by have := HLL.out; have := HN.out; omega
        have q5 : L.length + 1 ≤ maxLen := by have := HLL.out; have := HN.out; unfold maxLen; omega
        have q6 : 0 < n7 → newB (p + 1) b7 ∧ (Value.slice av t cv).ownBlock ≠ some b7 := fun h => ⟨by have := q1 h; unfold newB; omega, fun e => by have := (HOB.out b7 e).2; have := hn7 h; simp at this; omega⟩
        have q6' : 0 < n8 → newB (p + 1) b8 ∧ (Value.slice av t cv).ownBlock ≠ some b8 := fun h => ⟨by have := q2 h; unfold newB; omega, fun e => by have := (HOB.out b8 e).2; have := hn8 h; simp at this q7; omega⟩
        refine step_push rfl (.tmp 16) (.tmp 26) 22 rfl Form.lay p (newB (p + 1)) 69 i0 (.agg #[.int .i64 0, .int .i64 0, .int .i64 0, .slice none 0 0, .int .i64 0, .int .i64 0, .slice none 0 0]) 88 Try.underlying22 hi hz0 hz1 hz2 (by rfl) (by decide) (.slice av t cv) L (by rfl) (OwnRow.keep hown (Below.x2 hb8 hb7)) w8.heap.size 1 [.int .i64 d.kind, .int .i64 d.W.rows, .int .i64 d.W.cols, .slice a7 n7 k7, .int .i64 d.B.rows, .int .i64 d.B.cols, .slice a8 n8 k8] 69 d (by rfl) Box.x0 (reads_lay (l := d) (F := fun b => newB (p + 1) b ∧ (Value.slice av t cv).ownBlock ≠ some b) (b := b7) (b' := b8) (o := o7) (o' := o8) q6 (by first | exact x7.k1 hb8 | exact x7.k) q6' x8.k) q4 q5 (by simp; omega) _ rfl ?_
        intro g1 cap1 w9 hown1 hgrow hat hlt1
        rw [HLL.out] at hown1 ⊢
        have hx1 : Below wr.heap.size wr w8 := (Below.x2 hb8 hb7)
        have hx2 : Below p w1 w8 := hbr.trans (hx1.mono (Nat.le_of_lt hpz))
        have hx3 : p ≤ w8.heap.size := by have := hx1.size; omega
        have hb9 : Below p w1 w9 := Below.grown (hx2.alloc hx3 _) hgrow (by simp; omega) (fun q hq => (HOB.out q hq).1)
        have BX9 : Box w9 wr.heap.size [.int .i64 d.kind, .int .i64 d.W.rows, .int .i64 d.W.cols, .slice a4 n4 k4, .int .i64 d.B.rows, .int .i64 d.B.cols, .slice a5 n5 k5] 69 := Box.grown (by repeat (first | (with_reducible first | exact BX | refine Box.alloc ?_ _ | refine Box.drewN ?_ _ | refine Box.drew ?_ | refine Box.fx ?_ _ | refine Box.keep ?_ hb8 | refine Box.keep ?_ hb7) | exact BX)) hgrow (fun e => by have := (HOB.out wr.heap.size e.symm).2; omega)
        have BS9 : Box w9 p [.slice av t cv, .slice aZ n kZ, .int .i64 0] 34 := Box.grown (by repeat (first | (with_reducible first | exact BS | refine Box.alloc ?_ _ | refine Box.drewN ?_ _ | refine Box.drew ?_ | refine Box.fx ?_ _ | refine Box.keep ?_ hb8 | refine Box.keep ?_ hb7) | exact BS)) hgrow (fun e => hne e.symm)
        have S9 := BS9.cell 0
        have T9 := BS9.thawed 0
        have hgp : g1 ≠ p := fun e0 => hat.elim (fun e => hne (by rw [e, e0])) (fun e => by simp at e; omega)
        refine hK.out _ _ ?_ (fun hHeld => ?_)
        ·exact box7_all (t := 69) BX9
        clear hK K
        try simp only [Act.put, List.setIfInBounds_toArray, List.set_cons_zero, List.set_cons_succ]
        refine held_take (i := 13) (v := ?_) rfl (by kernel_rfl) (by kernel_rfl) (by kernel_rfl) (fun _ _ _ h => h) (Or.inl ⟨by rfl, ?_⟩) (by assumption) ?_
        rotate_left 1
        ·intro w hSw
         (try dsimp only at hSw)
         go_simp
         (try with_reducible rfl)
        (try simp only [Act.put, List.setIfInBounds_toArray, List.set_cons_zero, List.set_cons_succ])
        refine wpAnyH_ready (rs := [14]) (by kernel_rfl) (by simp) ?_
        refine held_cons rfl (fun K hK => ?_) ?_
        ·go_simp
         refine hK.out _ _ ?_ (fun hHeld => ?_)
         ·exact box7_all (t := 69) (Box.far BX9 HQP.out _)
         clear hK K
         try simp only [Act.put, List.setIfInBounds_toArray, List.set_cons_zero, List.set_cons_succ]
         refine wpAnyH_done (by kernel_rfl) ?_ _
         refine NoPanic.normal ?_
         have HR := Lib.hid (And.intro (show Box (w9.setCell ⟨p, 0, none⟩ (.slice (some ⟨g1, 0, none⟩) (t + 1) cap1)) p [.slice (some ⟨g1, 0, none⟩) (t + 1) cap1, .slice aZ n kZ, .int .i64 0] 34 from BS9.set 0 _) (And.intro (hown1.set (a := ⟨p, 0, none⟩) (by simp [Value.ownBlock]; exact hgp) (by intro h; have h' : p + 1 ≤ p := h; omega) (.slice (some ⟨g1, 0, none⟩) (t + 1) cap1)) (And.intro (show Value.ownBlock (.slice (some ⟨g1, 0, none⟩) (t + 1) cap1) ≠ some p from by simp [Value.ownBlock]; exact hgp) (hb9.setCell (p := ⟨p, 0, none⟩) (Nat.le_refl _) (.slice (some ⟨g1, 0, none⟩) (t + 1) cap1)))))
         clear BS9 S9 T9 BX9 hown1 hgrow hat hlt1 hb9 hHeld
         try clear S7 S8
         go_wp2
         go_roundw
         case rel => exact ⟨t + 1, _, by omega, by go_num, HR.out.1, by rw [HTK.out]; exact HR.out.2.1, HR.out.2.2.1, HR.out.2.2.2⟩
         case measure => simp [intOf]; omega
        exact AllReadyH.nil
       exact AllReadyH.nil
      exact AllReadyH.nil
     exact AllReadyH.nil
    exact AllReadyH.nil
   refine held_cons rfl (fun K hK => ?_) ?_
   ·go_simp
    refine (trainClone_any d.W _ _ (MatAt.mk (show IntsAt _ a4 n4 k4 b4 o4 d.W.cells from x4.k)) (by rw [x4.len]; exact hs4)).mono ?_
    rintro e w7 ⟨v7, rfl, ⟨a7, n7, k7, b7, o7, rfl, hn7, x7⟩, hb7⟩
    have BS7 : Box w7 p [.slice av t cv, .slice aZ n kZ, .int .i64 0] 34 := (by first | exact BS.k1 hb7 | exact BS.k)
    have S7 := BS7.cell 0
    have Z7 := BS7.lt
    go_wp2_with fail
    refine hK.out _ _ ?_ (fun hHeld => ?_)
    ·exact box7_all (t := 69) (show Box _ wr.heap.size [.int .i64 d.kind, .int .i64 d.W.rows, .int .i64 d.W.cols, .slice a4 n4 k4, .int .i64 d.B.rows, .int .i64 d.B.cols, .slice a5 n5 k5] 69 from (by first | exact BX.k1 hb7 | exact BX.k))
    clear hK K
    try simp only [Act.put, List.setIfInBounds_toArray, List.set_cons_zero, List.set_cons_succ]
    refine wpAnyH_ready (rs := [1, 9]) (by kernel_rfl) (by simp) ?_
    refine held_cons rfl (fun K hK => ?_) ?_
    ·go_simp
     refine hK.out _ _ ?_ (fun hHeld => ?_)
     ·exact box7_all (t := 69) (show Box _ wr.heap.size [.int .i64 d.kind, .int .i64 d.W.rows, .int .i64 d.W.cols, .slice a4 n4 k4, .int .i64 d.B.rows, .int .i64 d.B.cols, .slice a5 n5 k5] 69 from (by first | exact BX.k1 hb7 | exact BX.k))
     clear hK K
     try simp only [Act.put, List.setIfInBounds_toArray, List.set_cons_zero, List.set_cons_succ]
     refine wpAnyH_ready (rs := [9]) (by kernel_rfl) (by simp) ?_
     refine held_cons rfl (fun K hK => ?_) ?_
     ·go_simp
      refine (trainClone_any d.B _ _ (MatAt.mk (show IntsAt _ a5 n5 k5 b5 o5 d.B.cells from (by first | exact x5.k1 hb7 | exact x5.k))) (by rw [x5.len]; exact hs5)).mono ?_
      rintro e w8 ⟨v8, rfl, ⟨a8, n8, k8, b8, o8, rfl, hn8, x8⟩, hb8⟩
      have BS8 : Box w8 p [.slice av t cv, .slice aZ n kZ, .int .i64 0] 34 := (by repeat (first | (with_reducible first | exact BS | refine Box.alloc ?_ _ | refine Box.drewN ?_ _ | refine Box.drew ?_ | refine Box.fx ?_ _ | refine Box.keep ?_ hb8 | refine Box.keep ?_ hb7) | exact BS))
      have S8 := BS8.cell 0
      have Z8 := BS8.lt
      go_wp2_with fail
      refine hK.out _ _ ?_ (fun hHeld => ?_)
      ·exact box7_all (t := 69) (show Box _ wr.heap.size [.int .i64 d.kind, .int .i64 d.W.rows, .int .i64 d.W.cols, .slice a4 n4 k4, .int .i64 d.B.rows, .int .i64 d.B.cols, .slice a5 n5 k5] 69 from (by repeat (first | (with_reducible first | exact BX | refine Box.alloc ?_ _ | refine Box.drewN ?_ _ | refine Box.drew ?_ | refine Box.fx ?_ _ | refine Box.keep ?_ hb8 | refine Box.keep ?_ hb7) | exact BX)))
      clear hK K
      try simp only [Act.put, List.setIfInBounds_toArray, List.set_cons_zero, List.set_cons_succ]
      refine held_take (i := 10) (v := ?_) rfl (by kernel_rfl) (by kernel_rfl) (by kernel_rfl) (fun _ _ _ h => h) (Or.inl ⟨by rfl, ?_⟩) (by assumption) ?_
      rotate_left 1
      ·intro w hSw
       (try dsimp only at hSw)
       go_simp
       (try with_reducible rfl)
      (try simp only [Act.put, List.setIfInBounds_toArray, List.set_cons_zero, List.set_cons_succ])
      refine wpAnyH_ready (rs := [11]) (by kernel_rfl) (by simp) ?_
      refine held_cons rfl (fun K hK => ?_) ?_
      ·go_simp
       refine hK.out _ _ ?_ (fun hHeld => ?_)
       ·exact box7_all (t := 69) (show Box _ wr.heap.size [.int .i64 d.kind, .int .i64 d.W.rows, .int .i64 d.W.cols, .slice a4 n4 k4, .int .i64 d.B.rows, .int .i64 d.B.cols, .slice a5 n5 k5] 69 from (by repeat (first | (with_reducible first | exact BX | refine Box.alloc ?_ _ | refine Box.drewN ?_ _ | refine Box.drew ?_ | refine Box.fx ?_ _ | refine Box.keep ?_ hb8 | refine Box.keep ?_ hb7) | exact BX)))
       clear hK K
       try simp only [Act.put, List.setIfInBounds_toArray, List.set_cons_zero, List.set_cons_succ]
       refine wpAnyH_ready (rs := [12]) (by kernel_rfl) (by simp) ?_
       refine held_cons rfl (fun K hK => ?_) ?_
       ·refine at_oper ⟨some 27, _, _, _, _, _⟩ ?_
        have hb8' := hb8
        have q7 := hb7.size
        have q8 := hb8.size
        have q1 : 0 < n7 → p < b7 := by intro h; have := hn7 h; simp at this; omega
        have q2 : 0 < n8 → p < b8 := by intro h; have := hn8 h; simp at this q7; omega
        have q4 : (L.length + 1) * 88 ≤ 140737488355328 := by have := HLL.out; have := HN.out; omega
        have q5 : L.length + 1 ≤ maxLen := by have := HLL.out; have := HN.out; unfold maxLen; omega
        have q6 : 0 < n7 → newB (p + 1) b7 ∧ (Value.slice av t cv).ownBlock ≠ some b7 := fun h => ⟨by have := q1 h; unfold newB; omega, fun e => by have := (HOB.out b7 e).2; have := hn7 h; simp at this; omega⟩
        have q6' : 0 < n8 → newB (p + 1) b8 ∧ (Value.slice av t cv).ownBlock ≠ some b8 := fun h => ⟨by have := q2 h; unfold newB; omega, fun e => by have := (HOB.out b8 e).2; have := hn8 h; simp at this q7; omega⟩
        refine step_push rfl (.tmp 16) (.tmp 26) 22 rfl Form.lay p (newB (p + 1)) 69 i0 (.agg #[.int .i64 0, .int .i64 0, .int .i64 0, .slice none 0 0, .int .i64 0, .int .i64 0, .slice none 0 0]) 88 Try.underlying22 hi hz0 hz1 hz2 (by rfl) (by decide) (.slice av t cv) L (by rfl) (OwnRow.keep hown (Below.x2 hb8 hb7)) w8.heap.size 1 [.int .i64 d.kind, .int .i64 d.W.rows, .int .i64 d.W.cols, .slice a7 n7 k7, .int .i64 d.B.rows, .int .i64 d.B.cols, .slice a8 n8 k8] 69 d (by rfl) Box.x0 (reads_lay (l := d) (F := fun b => newB (p + 1) b ∧ (Value.slice av t cv).ownBlock ≠ some b) (b := b7) (b' := b8) (o := o7) (o' := o8) q6 (by first | exact x7.k1 hb8 | exact x7.k) q6' x8.k) q4 q5 (by simp; omega) _ rfl ?_
        intro g1 cap1 w9 hown1 hgrow hat hlt1
        rw [HLL.out] at hown1 ⊢
        have hx1 : Below wr.heap.size wr w8 := (Below.x2 hb8 hb7)
        have hx2 : Below p w1 w8 := hbr.trans (hx1.mono (Nat.le_of_lt hpz))
        have hx3 : p ≤ w8.heap.size := by have := hx1.size; omega
        have hb9 : Below p w1 w9 := Below.grown (hx2.alloc hx3 _) hgrow (by simp; omega) (fun q hq => (HOB.out q hq).1)
        have BX9 : Box w9 wr.heap.size [.int .i64 d.kind, .int .i64 d.W.rows, .int .i64 d.W.cols, .slice a4 n4 k4, .int .i64 d.B.rows, .int .i64 d.B.cols, .slice a5 n5 k5] 69 := Box.grown (by repeat (first | (with_reducible first | exact BX | refine Box.alloc ?_ _ | refine Box.drewN ?_ _ | refine Box.drew ?_ | refine Box.fx ?_ _ | refine Box.keep ?_ hb8 | refine Box.keep ?_ hb7) | exact BX)) hgrow (fun e => by have := (HOB.out wr.heap.size e.symm).2; omega)
        have BS9 : Box w9 p [.slice av t cv, .slice aZ n kZ, .int .i64 0] 34 := Box.grown (by repeat (first | (with_reducible first | exact BS | refine Box.alloc ?_ _ | refine Box.drewN ?_ _ | refine Box.drew ?_ | refine Box.fx ?_ _ | refine Box.keep ?_ hb8 | refine Box.keep ?_ hb7) | exact BS)) hgrow (fun e => hne e.symm)
        have S9 := BS9.cell 0
        have T9 := BS9.thawed 0
        have hgp : g1 ≠ p := fun e0 => hat.elim (fun e => hne (by rw [e, e0])) (fun e => by simp at e; omega)
        refine hK.out _ _ ?_ (fun hHeld => ?_)
        ·exact box7_all (t := 69) BX9
        clear hK K
        try simp only [Act.put, List.setIfInBounds_toArray, List.set_cons_zero, List.set_cons_succ]
        refine held_take (i := 13) (v := ?_) rfl (by kernel_rfl) (by kernel_rfl) (by kernel_rfl) (fun _ _ _ h => h) (Or.inl ⟨by rfl, ?_⟩) (by assumption) ?_
        rotate_left 1
        ·intro w hSw
         (try dsimp only at hSw)
         go_simp
         (try with_reducible rfl)
        (try simp only [Act.put, List.setIfInBounds_toArray, List.set_cons_zero, List.set_cons_succ])
        refine wpAnyH_ready (rs := [14]) (by kernel_rfl) (by simp) ?_
        refine held_cons rfl (fun K hK => ?_) ?_
        ·go_simp
         refine hK.out _ _ ?_ (fun hHeld => ?_)
         ·exact box7_all (t := 69) (Box.far BX9 HQP.out _)
         clear hK K
         try simp only [Act.put, List.setIfInBounds_toArray, List.set_cons_zero, List.set_cons_succ]
         refine wpAnyH_done (by kernel_rfl) ?_ _
         refine NoPanic.normal ?_
         have HR := Lib.hid (And.intro (show Box (w9.setCell ⟨p, 0, none⟩ (.slice (some ⟨g1, 0, none⟩) (t + 1) cap1)) p [.slice (some ⟨g1, 0, none⟩) (t + 1) cap1, .slice aZ n kZ, .int .i64 0] 34 from BS9.set 0 _) (And.intro (hown1.set (a := ⟨p, 0, none⟩) (by simp [Value.ownBlock]; exact hgp) (by intro h; have h' : p + 1 ≤ p := h; omega) (.slice (some ⟨g1, 0, none⟩) (t + 1) cap1)) (And.intro (show Value.ownBlock (.slice (some ⟨g1, 0, none⟩) (t + 1) cap1) ≠ some p from by simp [Value.ownBlock]; exact hgp) (hb9.setCell (p := ⟨p, 0, none⟩) (Nat.le_refl _) (.slice (some ⟨g1, 0, none⟩) (t + 1) cap1)))))
         clear BS9 S9 T9 BX9 hown1 hgrow hat hlt1 hb9 hHeld
         try clear S7 S8
         go_wp2
         go_roundw
         case rel => exact ⟨t + 1, _, by omega, by go_num, HR.out.1, by rw [HTK.out]; exact HR.out.2.1, HR.out.2.2.1, HR.out.2.2.2⟩
         case measure => simp [intOf]; omega
        exact AllReadyH.nil
       exact AllReadyH.nil
      exact AllReadyH.nil
     exact AllReadyH.nil
    refine held_cons rfl (fun K hK => ?_) ?_
    ·go_simp
     refine (trainClone_any d.B _ _ (MatAt.mk (show IntsAt _ a5 n5 k5 b5 o5 d.B.cells from (by first | exact x5.k1 hb7 | exact x5.k))) (by rw [x5.len]; exact hs5)).mono ?_
     rintro e w8 ⟨v8, rfl, ⟨a8, n8, k8, b8, o8, rfl, hn8, x8⟩, hb8⟩
     have BS8 : Box w8 p [.slice av t cv, .slice aZ n kZ, .int .i64 0] 34 := (by repeat (first | (with_reducible first | exact BS | refine Box.alloc ?_ _ | refine Box.drewN ?_ _ | refine Box.drew ?_ | refine Box.fx ?_ _ | refine Box.keep ?_ hb8 | refine Box.keep ?_ hb7) | exact BS))
     have S8 := BS8.cell 0
     have Z8 := BS8.lt
     go_wp2_with fail
     refine hK.out _ _ ?_ (fun hHeld => ?_)
     ·exact box7_all (t := 69) (show Box _ wr.heap.size [.int .i64 d.kind, .int .i64 d.W.rows, .int .i64 d.W.cols, .slice a4 n4 k4, .int .i64 d.B.rows, .int .i64 d.B.cols, .slice a5 n5 k5] 69 from (by repeat (first | (with_reducible first | exact BX | refine Box.alloc ?_ _ | refine Box.drewN ?_ _ | refine Box.drew ?_ | refine Box.fx ?_ _ | refine Box.keep ?_ hb8 | refine Box.keep ?_ hb7) | exact BX)))
     clear hK K
     try simp only [Act.put, List.setIfInBounds_toArray, List.set_cons_zero, List.set_cons_succ]
     refine held_take (i := 10) (v := ?_) rfl (by kernel_rfl) (by kernel_rfl) (by kernel_rfl) (fun _ _ _ h => h) (Or.inl ⟨by rfl, ?_⟩) (by assumption) ?_
     rotate_left 1
     ·intro w hSw
      (try dsimp only at hSw)
      go_simp
      (try with_reducible rfl)
     (try simp only [Act.put, List.setIfInBounds_toArray, List.set_cons_zero, List.set_cons_succ])
     refine wpAnyH_ready (rs := [1, 11]) (by kernel_rfl) (by simp) ?_
     refine held_cons rfl (fun K hK => ?_) ?_
     ·go_simp
      refine hK.out _ _ ?_ (fun hHeld => ?_)
      ·exact box7_all (t := 69) (show Box _ wr.heap.size [.int .i64 d.kind, .int .i64 d.W.rows, .int .i64 d.W.cols, .slice a4 n4 k4, .int .i64 d.B.rows, .int .i64 d.B.cols, .slice a5 n5 k5] 69 from (by repeat (first | (with_reducible first | exact BX | refine Box.alloc ?_ _ | refine Box.drewN ?_ _ | refine Box.drew ?_ | refine Box.fx ?_ _ | refine Box.keep ?_ hb8 | refine Box.keep ?_ hb7) | exact BX)))
      clear hK K
      try simp only [Act.put, List.setIfInBounds_toArray, List.set_cons_zero, List.set_cons_succ]
      refine wpAnyH_ready (rs := [11]) (by kernel_rfl) (by simp) ?_
      refine held_cons rfl (fun K hK => ?_) ?_
      ·go_simp
       refine hK.out _ _ ?_ (fun hHeld => ?_)
       ·exact box7_all (t := 69) (show Box _ wr.heap.size [.int .i64 d.kind, .int .i64 d.W.rows, .int .i64 d.W.cols, .slice a4 n4 k4, .int .i64 d.B.rows, .int .i64 d.B.cols, .slice a5 n5 k5] 69 from (by repeat (first | (with_reducible first | exact BX | refine Box.alloc ?_ _ | refine Box.drewN ?_ _ | refine Box.drew ?_ | refine Box.fx ?_ _ | refine Box.keep ?_ hb8 | refine Box.keep ?_ hb7) | exact BX)))
       clear hK K
       try simp only [Act.put, List.setIfInBounds_toArray, List.set_cons_zero, List.set_cons_succ]
       refine wpAnyH_ready (rs := [12]) (by kernel_rfl) (by simp) ?_
       refine held_cons rfl (fun K hK => ?_) ?_
       ·refine at_oper ⟨some 27, _, _, _, _, _⟩ ?_
        have hb8' := hb8
        have q7 := hb7.size
        have q8 := hb8.size
        have q1 : 0 < n7 → p < b7 := by intro h; have := hn7 h; simp at this; omega
        have q2 : 0 < n8 → p < b8 := by intro h; have := hn8 h; simp at this q7; omega
        have q4 : (L.length + 1) * 88 ≤ 140737488355328 := by have := HLL.out; have := HN.out; omega
        have q5 : L.length + 1 ≤ maxLen := by have := HLL.out; have := HN.out; unfold maxLen; omega
        have q6 : 0 < n7 → newB (p + 1) b7 ∧ (Value.slice av t cv).ownBlock ≠ some b7 := fun h => ⟨by have := q1 h; unfold newB; omega, fun e => by have := (HOB.out b7 e).2; have := hn7 h; simp at this; omega⟩
        have q6' : 0 < n8 → newB (p + 1) b8 ∧ (Value.slice av t cv).ownBlock ≠ some b8 := fun h => ⟨by have := q2 h; unfold newB; omega, fun e => by have := (HOB.out b8 e).2; have := hn8 h; simp at this q7; omega⟩
        refine step_push rfl (.tmp 16) (.tmp 26) 22 rfl Form.lay p (newB (p + 1)) 69 i0 (.agg #[.int .i64 0, .int .i64 0, .int .i64 0, .slice none 0 0, .int .i64 0, .int .i64 0, .slice none 0 0]) 88 Try.underlying22 hi hz0 hz1 hz2 (by rfl) (by decide) (.slice av t cv) L (by rfl) (OwnRow.keep hown (Below.x2 hb8 hb7)) w8.heap.size 1 [.int .i64 d.kind, .int .i64 d.W.rows, .int .i64 d.W.cols, .slice a7 n7 k7, .int .i64 d.B.rows, .int .i64 d.B.cols, .slice a8 n8 k8] 69 d (by rfl) Box.x0 (reads_lay (l := d) (F := fun b => newB (p + 1) b ∧ (Value.slice av t cv).ownBlock ≠ some b) (b := b7) (b' := b8) (o := o7) (o' := o8) q6 (by first | exact x7.k1 hb8 | exact x7.k) q6' x8.k) q4 q5 (by simp; omega) _ rfl ?_
        intro g1 cap1 w9 hown1 hgrow hat hlt1
        rw [HLL.out] at hown1 ⊢
        have hx1 : Below wr.heap.size wr w8 := (Below.x2 hb8 hb7)
        have hx2 : Below p w1 w8 := hbr.trans (hx1.mono (Nat.le_of_lt hpz))
        have hx3 : p ≤ w8.heap.size := by have := hx1.size; omega
        have hb9 : Below p w1 w9 := Below.grown (hx2.alloc hx3 _) hgrow (by simp; omega) (fun q hq => (HOB.out q hq).1)
        have BX9 : Box w9 wr.heap.size [.int .i64 d.kind, .int .i64 d.W.rows, .int .i64 d.W.cols, .slice a4 n4 k4, .int .i64 d.B.rows, .int .i64 d.B.cols, .slice a5 n5 k5] 69 := Box.grown (by repeat (first | (with_reducible first | exact BX | refine Box.alloc ?_ _ | refine Box.drewN ?_ _ | refine Box.drew ?_ | refine Box.fx ?_ _ | refine Box.keep ?_ hb8 | refine Box.keep ?_ hb7) | exact BX)) hgrow (fun e => by have := (HOB.out wr.heap.size e.symm).2; omega)
        have BS9 : Box w9 p [.slice av t cv, .slice aZ n kZ, .int .i64 0] 34 := Box.grown (by repeat (first | (with_reducible first | exact BS | refine Box.alloc ?_ _ | refine Box.drewN ?_ _ | refine Box.drew ?_ | refine Box.fx ?_ _ | refine Box.keep ?_ hb8 | refine Box.keep ?_ hb7) | exact BS)) hgrow (fun e => hne e.symm)
        have S9 := BS9.cell 0
        have T9 := BS9.thawed 0
        have hgp : g1 ≠ p := fun e0 => hat.elim (fun e => hne (by rw [e, e0])) (fun e => by simp at e; omega)
        refine hK.out _ _ ?_ (fun hHeld => ?_)
        ·exact box7_all (t := 69) BX9
        clear hK K
        try simp only [Act.put, List.setIfInBounds_toArray, List.set_cons_zero, List.set_cons_succ]
        refine held_take (i := 13) (v := ?_) rfl (by kernel_rfl) (by kernel_rfl) (by kernel_rfl) (fun _ _ _ h => h) (Or.inl ⟨by rfl, ?_⟩) (by assumption) ?_
        rotate_left 1
        ·intro w hSw
         (try dsimp only at hSw)
         go_simp
         (try with_reducible rfl)
        (try simp only [Act.put, List.setIfInBounds_toArray, List.set_cons_zero, List.set_cons_succ])
        refine wpAnyH_ready (rs := [14]) (by kernel_rfl) (by simp) ?_
        refine held_cons rfl (fun K hK => ?_) ?_
        ·go_simp
         refine hK.out _ _ ?_ (fun hHeld => ?_)
         ·exact box7_all (t := 69) (Box.far BX9 HQP.out _)
         clear hK K
         try simp only [Act.put, List.setIfInBounds_toArray, List.set_cons_zero, List.set_cons_succ]
         refine wpAnyH_done (by kernel_rfl) ?_ _
         refine NoPanic.normal ?_
         have HR := Lib.hid (And.intro (show Box (w9.setCell ⟨p, 0, none⟩ (.slice (some ⟨g1, 0, none⟩) (t + 1) cap1)) p [.slice (some ⟨g1, 0, none⟩) (t + 1) cap1, .slice aZ n kZ, .int .i64 0] 34 from BS9.set 0 _) (And.intro (hown1.set (a := ⟨p, 0, none⟩) (by simp [Value.ownBlock]; exact hgp) (by intro h; have h' : p + 1 ≤ p := h; omega) (.slice (some ⟨g1, 0, none⟩) (t + 1) cap1)) (And.intro (show Value.ownBlock (.slice (some ⟨g1, 0, none⟩) (t + 1) cap1) ≠ some p from by simp [Value.ownBlock]; exact hgp) (hb9.setCell (p := ⟨p, 0, none⟩) (Nat.le_refl _) (.slice (some ⟨g1, 0, none⟩) (t + 1) cap1)))))
         clear BS9 S9 T9 BX9 hown1 hgrow hat hlt1 hb9 hHeld
         try clear S7 S8
         go_wp2
         go_roundw
         case rel => exact ⟨t + 1, _, by omega, by go_num, HR.out.1, by rw [HTK.out]; exact HR.out.2.1, HR.out.2.2.1, HR.out.2.2.2⟩
         case measure => simp [intOf]; omega
        exact AllReadyH.nil
       exact AllReadyH.nil
      exact AllReadyH.nil
     refine held_cons rfl (fun K hK => ?_) ?_
     ·go_simp
      refine hK.out _ _ ?_ (fun hHeld => ?_)
      ·exact box7_all (t := 69) (show Box _ wr.heap.size [.int .i64 d.kind, .int .i64 d.W.rows, .int .i64 d.W.cols, .slice a4 n4 k4, .int .i64 d.B.rows, .int .i64 d.B.cols, .slice a5 n5 k5] 69 from (by repeat (first | (with_reducible first | exact BX | refine Box.alloc ?_ _ | refine Box.drewN ?_ _ | refine Box.drew ?_ | refine Box.fx ?_ _ | refine Box.keep ?_ hb8 | refine Box.keep ?_ hb7) | exact BX)))
      clear hK K
      try simp only [Act.put, List.setIfInBounds_toArray, List.set_cons_zero, List.set_cons_succ]
      refine wpAnyH_ready (rs := [1]) (by kernel_rfl) (by simp) ?_
      refine held_cons rfl (fun K hK => ?_) ?_
      ·go_simp
       refine hK.out _ _ ?_ (fun hHeld => ?_)
       ·exact box7_all (t := 69) (show Box _ wr.heap.size [.int .i64 d.kind, .int .i64 d.W.rows, .int .i64 d.W.cols, .slice a4 n4 k4, .int .i64 d.B.rows, .int .i64 d.B.cols, .slice a5 n5 k5] 69 from (by repeat (first | (with_reducible first | exact BX | refine Box.alloc ?_ _ | refine Box.drewN ?_ _ | refine Box.drew ?_ | refine Box.fx ?_ _ | refine Box.keep ?_ hb8 | refine Box.keep ?_ hb7) | exact BX)))
       clear hK K
       try simp only [Act.put, List.setIfInBounds_toArray, List.set_cons_zero, List.set_cons_succ]
       refine wpAnyH_ready (rs := [12]) (by kernel_rfl) (by simp) ?_
       refine held_cons rfl (fun K hK => ?_) ?_
       ·refine at_oper ⟨some 27, _, _, _, _, _⟩ ?_
        have hb8' := hb8
        have q7 := hb7.size
        have q8 := hb8.size
        have q1 : 0 < n7 → p < b7 := by intro h; have := hn7 h; simp at this; omega
        have q2 : 0 < n8 → p < b8 := by intro h; have := hn8 h; simp at this q7; omega
        have q4 : (L.length + 1) * 88 ≤ 140737488355328 := by have := HLL.out; have := HN.out; omega
        have q5 : L.length + 1 ≤ maxLen := by have := HLL.out; have := HN.out; unfold maxLen; omega
        have q6 : 0 < n7 → newB (p + 1) b7 ∧ (Value.slice av t cv).ownBlock ≠ some b7 := fun h => ⟨by have := q1 h; unfold newB; omega, fun e => by have := (HOB.out b7 e).2; have := hn7 h; simp at this; omega⟩
        have q6' : 0 < n8 → newB (p + 1) b8 ∧ (Value.slice av t cv).ownBlock ≠ some b8 := fun h => ⟨by have := q2 h; unfold newB; omega, fun e => by have := (HOB.out b8 e).2; have := hn8 h; simp at this q7; omega⟩
        refine step_push rfl (.tmp 16) (.tmp 26) 22 rfl Form.lay p (newB (p + 1)) 69 i0 (.agg #[.int .i64 0, .int .i64 0, .int .i64 0, .slice none 0 0, .int .i64 0, .int .i64 0, .slice none 0 0]) 88 Try.underlying22 hi hz0 hz1 hz2 (by rfl) (by decide) (.slice av t cv) L (by rfl) (OwnRow.keep hown (Below.x2 hb8 hb7)) w8.heap.size 1 [.int .i64 d.kind, .int .i64 d.W.rows, .int .i64 d.W.cols, .slice a7 n7 k7, .int .i64 d.B.rows, .int .i64 d.B.cols, .slice a8 n8 k8] 69 d (by rfl) Box.x0 (reads_lay (l := d) (F := fun b => newB (p + 1) b ∧ (Value.slice av t cv).ownBlock ≠ some b) (b := b7) (b' := b8) (o := o7) (o' := o8) q6 (by first | exact x7.k1 hb8 | exact x7.k) q6' x8.k) q4 q5 (by simp; omega) _ rfl ?_
        intro g1 cap1 w9 hown1 hgrow hat hlt1
        rw [HLL.out] at hown1 ⊢
        have hx1 : Below wr.heap.size wr w8 := (Below.x2 hb8 hb7)
        have hx2 : Below p w1 w8 := hbr.trans (hx1.mono (Nat.le_of_lt hpz))
        have hx3 : p ≤ w8.heap.size := by have := hx1.size; omega
        have hb9 : Below p w1 w9 := Below.grown (hx2.alloc hx3 _) hgrow (by simp; omega) (fun q hq => (HOB.out q hq).1)
        have BX9 : Box w9 wr.heap.size [.int .i64 d.kind, .int .i64 d.W.rows, .int .i64 d.W.cols, .slice a4 n4 k4, .int .i64 d.B.rows, .int .i64 d.B.cols, .slice a5 n5 k5] 69 := Box.grown (by repeat (first | (with_reducible first | exact BX | refine Box.alloc ?_ _ | refine Box.drewN ?_ _ | refine Box.drew ?_ | refine Box.fx ?_ _ | refine Box.keep ?_ hb8 | refine Box.keep ?_ hb7) | exact BX)) hgrow (fun e => by have := (HOB.out wr.heap.size e.symm).2; omega)
        have BS9 : Box w9 p [.slice av t cv, .slice aZ n kZ, .int .i64 0] 34 := Box.grown (by repeat (first | (with_reducible first | exact BS | refine Box.alloc ?_ _ | refine Box.drewN ?_ _ | refine Box.drew ?_ | refine Box.fx ?_ _ | refine Box.keep ?_ hb8 | refine Box.keep ?_ hb7) | exact BS)) hgrow (fun e => hne e.symm)
        have S9 := BS9.cell 0
        have T9 := BS9.thawed 0
        have hgp : g1 ≠ p := fun e0 => hat.elim (fun e => hne (by rw [e, e0])) (fun e => by simp at e; omega)
        refine hK.out _ _ ?_ (fun hHeld => ?_)
        ·exact box7_all (t := 69) BX9
        clear hK K
        try simp only [Act.put, List.setIfInBounds_toArray, List.set_cons_zero, List.set_cons_succ]
        refine held_take (i := 13) (v := ?_) rfl (by kernel_rfl) (by kernel_rfl) (by kernel_rfl) (fun _ _ _ h => h) (Or.inl ⟨by rfl, ?_⟩) (by assumption) ?_
        rotate_left 1
        ·intro w hSw
         (try dsimp only at hSw)
         go_simp
         (try with_reducible rfl)
        (try simp only [Act.put, List.setIfInBounds_toArray, List.set_cons_zero, List.set_cons_succ])
        refine wpAnyH_ready (rs := [14]) (by kernel_rfl) (by simp) ?_
        refine held_cons rfl (fun K hK => ?_) ?_
        ·go_simp
         refine hK.out _ _ ?_ (fun hHeld => ?_)
         ·exact box7_all (t := 69) (Box.far BX9 HQP.out _)
         clear hK K
         try simp only [Act.put, List.setIfInBounds_toArray, List.set_cons_zero, List.set_cons_succ]
         refine wpAnyH_done (by kernel_rfl) ?_ _
         refine NoPanic.normal ?_
         have HR := Lib.hid (And.intro (show Box (w9.setCell ⟨p, 0, none⟩ (.slice (some ⟨g1, 0, none⟩) (t + 1) cap1)) p [.slice (some ⟨g1, 0, none⟩) (t + 1) cap1, .slice aZ n kZ, .int .i64 0] 34 from BS9.set 0 _) (And.intro (hown1.set (a := ⟨p, 0, none⟩) (by simp [Value.ownBlock]; exact hgp) (by intro h; have h' : p + 1 ≤ p := h; omega) (.slice (some ⟨g1, 0, none⟩) (t + 1) cap1)) (And.intro (show Value.ownBlock (.slice (some ⟨g1, 0, none⟩) (t + 1) cap1) ≠ some p from by simp [Value.ownBlock]; exact hgp) (hb9.setCell (p := ⟨p, 0, none⟩) (Nat.le_refl _) (.slice (some ⟨g1, 0, none⟩) (t + 1) cap1)))))
         clear BS9 S9 T9 BX9 hown1 hgrow hat hlt1 hb9 hHeld
         try clear S7 S8
         go_wp2
         go_roundw
         case rel => exact ⟨t + 1, _, by omega, by go_num, HR.out.1, by rw [HTK.out]; exact HR.out.2.1, HR.out.2.2.1, HR.out.2.2.2⟩
         case measure => simp [intOf]; omega
        exact AllReadyH.nil
       exact AllReadyH.nil
      exact AllReadyH.nil
     exact AllReadyH.nil
    exact AllReadyH.nil
   exact AllReadyH.nil
   -- END
  ·obtain rfl : t = n := by omega
   have hlen := HLEN.out t (Nat.le_refl _)
   obtain ⟨av, cv, bv, hv, _, hrow⟩ := hown.row (G := newB p) (fun c hc _ => by have h' : p + 1 ≤ c := hc; show p ≤ c; omega) (fun c hc => hc)
   rw [hlen] at hv hrow
   rw [HALL.out] at hrow
   subst hv
   have Rr := R1.keep hbr1
   have rZr := rZ.keep hbr1
   have lZr := lZ.keep hbr1
   have hbw : Below w.heap.size w wr := hbw1.trans (hbr1.mono hbw1.size)
   have c0 := BS.cell 0
   have c1 := BS.cell 1
   have c2 := BS.cell 2
   have d0 := Rr.cell 0
   have d1 := Rr.cell 1
   have d2 := Rr.cell 2
   have f0 := Rr.thawed 0
   have f1 := Rr.thawed 1
   have f2 := Rr.thawed 2
   have bz := ((Rr.set 0 (.slice av t cv)).set 1 (.slice aZ t kZ)).set 2 (.int .i64 0)
   have z0 := bz.cell 0
   have z1 := bz.cell 1
   have z2 := bz.cell 2
   have hbe : Below w.heap.size w (((wr.setCell ⟨w.heap.size, 0, none⟩ (.slice av t cv)).setCell ⟨w.heap.size, 1, none⟩ (.slice aZ t kZ)).setCell ⟨w.heap.size, 2, none⟩ (.int .i64 0)) := ((hbw.setCell (by dsimp only; omega) _).setCell (by dsimp only; omega) _).setCell (by dsimp only; omega) _
   have hf9 : Far (fun c => c = w.heap.size) wr (((wr.setCell ⟨w.heap.size, 0, none⟩ (.slice av t cv)).setCell ⟨w.heap.size, 1, none⟩ (.slice aZ t kZ)).setCell ⟨w.heap.size, 2, none⟩ (.int .i64 0)) := (((Far.refl (fun c => c = w.heap.size) wr).st (fun _ => rfl) _).st (fun _ => rfl) _).st (fun _ => rfl) _
   have hw0z : w.heap.size < w0.heap.size := R0z
   have t0 := hrow.farS hf9 (fun c hc _ hh => by have h3 : p ≤ c := hc; have h4 : c = w.heap.size := hh; omega)
   have t1 := rZr.farS hf9 (fun c hc _ hh => by have h3 : w0.heap.size ≤ c := hc; have h4 : c = w.heap.size := hh; omega)
   have t2 := lZr.farS hf9 (fun c hc _ hh => by have h3 : w0.heap.size ≤ c := hc; have h4 : c = w.heap.size := hh; omega)
   have hbZp : 0 < t → bZ < p := HBZ.out
   have HT0 := Lib.hid (t0.wide (G := newBut w.heap.size t bZ) (fun c hc _ => ⟨Nat.le_trans (by omega) hc, fun hn e => by have := hbZp hn; have h3 : p ≤ c := hc; omega⟩))
   have HLZ := Lib.hid (t2.wide (show w.heap.size ≤ w0.heap.size by omega))
   have HQ := Lib.hid (And.intro hbe (And.intro (t0.wide (G := newB w.heap.size) (fun c hc _ => Nat.le_trans (by omega) hc)) (t1.wide (G := newB w.heap.size) (fun c hc _ => Nat.le_trans (by omega) hc))))
   clear hbe hf9 t0 t1 hrow rZr lZr t2 bz hbw hown hbr hbr1 hlen
   go_wp2
   refine bodyPost_ret (v := .agg #[.slice av t cv, .slice aZ t kZ, .int .i64 0]) (by simp [results, Try.results23, go_sem, z0, z1, z2]) rfl ⟨_, rfl, HQ.out.1, av, t, cv, bv, aZ, t, kZ, bZ, rfl, HT0.out, HQ.out.2.2, HLZ.out⟩
theorem trainBegin_any (ls : List Lay) (F : Nat → Prop) (a : Option Addr) (n k b o : Nat) (w : World) (h : RowAt Form.lay w F a n k b o ls) (hm : ∀ i, i < n → (lx ls i).W.cells.length * 8 ≤ 140737488355328 ∧ (lx ls i).B.cells.length * 8 ≤ 140737488355328) (hn : n * 88 ≤ 140737488355328) :
  Calls Try.prog 23 #[.slice a n k] w fun e w' => ∃ v, e = .returned v ∧ Below w.heap.size w w' ∧ StaNew w.heap.size w' v ⟨ls, zeroNet ls, 0⟩ :=
 (trainBegin_loose ls F a n k b o w h hm hn).mono fun _ _ ⟨v, h1, h2, h3⟩ => ⟨v, h1, h2, h3.new⟩
end Go.Proofs.Ytchngeagnlngaaa
end
