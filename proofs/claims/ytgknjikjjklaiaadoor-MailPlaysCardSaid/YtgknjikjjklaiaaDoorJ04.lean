/- Texts joined: Mail1. -/
import Derived.Test.YtgknjikjjklaiaaDoorJ01
import Derived.Test.YtgknjikjjklaiaaDoorJ03
import Derived.Conc.LoneSelect
import Derived.KernelRfl
section
set_option linter.unusedVariables false
set_option linter.unusedSimpArgs false
set_option linter.unusedSectionVars false
set_option maxRecDepth 100000
namespace Gal
open Go Go.RowKit
theorem Far.setChan {S : Nat → Prop} {w w' : World} (h : Far S w w') {c : Nat} (hc : c < w.heap.size → S c) (cap : Nat) (buf : Array Value) (cl : Bool) (s r : Nat) (tm : Bool) : Far S w (w'.setChan c cap buf cl s r tm) :=
 ⟨h.os, h.tape, h.output, by simpa [World.setChan] using h.size, fun k hk hs => by
  refine Eq.trans ?_ (h.block k hk hs)
  simp only [World.setChan]
  rw [Array.getElem?_setIfInBounds_ne (fun e => hs (by rw [← e]; exact hc (by rw [e]; exact hk)))]⟩
end Gal
namespace Go.Proofs.YtgknjikjjklaiaaDoor
open Go.RowKit Gal Go.Conc
set_option maxHeartbeats 4000000
structure QAt (w : World) (p c cap : Nat) (buf : Array Value) (closed : Bool) (s r : Nat) : Prop where
 box : Box w p [.chan (some c), .bool closed] 86
 ch : w.heap[c]? = some (.chan cap buf closed s r false)
theorem QAt.ne {w : World} {p c cap : Nat} {buf : Array Value} {closed : Bool} {s r : Nat} (h : QAt w p c cap buf closed s r) : p ≠ c := by
 rintro rfl
 have h1 := h.box.cell 0
 simp [World.cell?, h.ch] at h1
theorem QAt.keep {w w' : World} {p c cap : Nat} {buf : Array Value} {closed : Bool} {s r : Nat} (h : QAt w p c cap buf closed s r) (hb : Below w.heap.size w w') : QAt w' p c cap buf closed s r :=
 ⟨h.box.keep hb, (hb.block c (by
  rcases Nat.lt_or_ge c w.heap.size with h1 | h1
  ·exact h1
  ·have := h.ch; rw [Array.getElem?_eq_none h1] at this; cases this)).trans h.ch⟩
theorem heap_alloc_old {w : World} {c : Nat} {x o : Obj} (h : w.heap[c]? = some x) : (w.alloc o).heap[c]? = some x := by
 rw [Below.heap_alloc _ _ _ (by
  rcases Nat.lt_or_ge c w.heap.size with h1 | h1
  ·exact h1
  ·rw [Array.getElem?_eq_none h1] at h; cases h)]
 exact h
theorem heap_st_old {w : World} {c : Nat} {x : Obj} {p : Addr} {v : Value} (h : w.heap[c]? = some x) (hp : p.block ≠ c) : (w.setCell p v).heap[c]? = some x := (Below.heap_setCell w p v c (fun e => hp e.symm)).trans h
section
variable (v : Array Value) (p c cap : Nat) (buf : Array Value) (s r : Nat) (w : World) (k m R C : Int) (a : Option Addr) (n q : Nat) (hv : v = #[.int .i64 k, .int .i64 m, .int .i64 R, .int .i64 C, .slice a n q])
include hv
def PutEnd (w : World) (p c cap : Nat) (buf : Array Value) (cl : Bool) (s r : Nat) (x : Value) (e : Ending) (w' : World) : Prop := e = .returned x ∧ Far (fun b => b = c) w w' ∧ w'.heap[c]? = some (.chan cap buf cl s r false)
theorem queuePut_room (h : QAt w p c cap buf false s r) (hroom : buf.size < cap) :
  Calls Tryd.prog 39 #[.pointer (some ⟨p, 0, none⟩), .agg v] w (PutEnd w p c cap (buf.push (.agg v)) false (s + 1) r .nilIface) := by
 subst hv
 have c0 := h.box.cell 0
 have c1 := h.box.cell 1
 have hz := h.box.lt
 have hk : p < w.heap.size + 1 := by omega
 refine calls_of_loneTo fun cs => ?_
 have e : Frame.enter Tryd.prog 39 #[.pointer (some ⟨p, 0, none⟩), .agg #[.int .i64 k, .int .i64 m, .int .i64 R, .int .i64 C, .slice a n q]] .normal = (base 39).at ⟨#[.pointer (some ⟨p, 0, none⟩), .agg #[.int .i64 k, .int .i64 m, .int .i64 R, .int .i64 C, .slice a n q], undef, undef, undef, undef, undef, undef, undef, undef, undef, undef, undef, undef, undef, undef, undef, undef, undef], []⟩ [.code (Tryd.f39.body.getD .skip)] := by
  simp [Frame.enter, Frame.at, Tryd.func39, base, Tryd.f39]
 rw [e]
 clear e
 refine LoneTo.goes (n := 60) ?_
 simp only [Tryd.f39, Option.getD_some]
 s_c stepG_seq
 s_reg
 s_op
 s_op
 s_c stepG_region_end
 s_c stepG_seq
 s_c stepG_seq
 s_reg
 s_op
 s_op
 s_op
 s_op
 s_c stepG_region_end
 s_cond false
 s_c stepG_skip
 s_c stepG_seq
 s_c stepG_seq
 s_reg
 s_op
 s_op
 s_op
 s_op
 s_c stepG_region_end
 s_reg
 s_op
 s_c stepG_region_end
 s_c stepG_seq
 s_reg
 s_stop
 refine LoneTo.step (step_lone_select_send_room (c := c) (cap := cap) (buf := buf) (s := s) (r := r) (tm := false) (stepG_comm (cases := #[scase c (.agg #[.int .i64 k, .int .i64 m, .int .i64 R, .int .i64 C, .slice a n q]) (.agg #[.int .i64 0, .int .i64 0, .int .i64 0, .int .i64 0, .slice none 0 0])]) (blocking := false) (shape := .select) (w' := w.alloc (.cells #[.int .i64 k, .int .i64 m, .int .i64 R, .int .i64 C, .slice a n q] 26)) rfl rfl (by decide) (by simp [execOp, scase, Act.eval])) (heap_alloc_old h.ch) hroom) ?_
 rw [Frame.finish_at]
 walk_nrm
 refine LoneTo.goes (n := 20) ?_
 s_op
 s_op
 s_c stepG_region_end
 s_c stepG_block
 s_cond true
 s_c stepG_seq
 s_reg
 s_op
 s_c stepG_region_end
 s_c stepG_ret'
 s_stop
 refine LoneTo.done ⟨.returned .nilIface, _, rfl, ⟨rfl, ((Far.refl (fun b => b = c) w).al _).setChan (S := fun b => b = c) (fun _ => rfl) _ _ _ _ _ _, heap_setChan _ _ _ _ _ _ _ _ (heap_lt (heap_alloc_old h.ch))⟩, rfl, rfl, rfl, rfl, _, Tryd.func39, by simp [results, Tryd.f39, Frame.at]⟩
theorem queuePut_full (h : QAt w p c cap buf false s r) (hfull : cap ≤ buf.size) :
  Calls Tryd.prog 39 #[.pointer (some ⟨p, 0, none⟩), .agg v] w (PutEnd w p c cap buf false s r (errV 3)) := by
 subst hv
 have c0 := h.box.cell 0
 have c1 := h.box.cell 1
 have hz := h.box.lt
 have hk : p < w.heap.size + 1 := by omega
 refine calls_of_loneTo fun cs => ?_
 have e : Frame.enter Tryd.prog 39 #[.pointer (some ⟨p, 0, none⟩), .agg #[.int .i64 k, .int .i64 m, .int .i64 R, .int .i64 C, .slice a n q]] .normal = (base 39).at ⟨#[.pointer (some ⟨p, 0, none⟩), .agg #[.int .i64 k, .int .i64 m, .int .i64 R, .int .i64 C, .slice a n q], undef, undef, undef, undef, undef, undef, undef, undef, undef, undef, undef, undef, undef, undef, undef, undef, undef], []⟩ [.code (Tryd.f39.body.getD .skip)] := by
  simp [Frame.enter, Frame.at, Tryd.func39, base, Tryd.f39]
 rw [e]
 clear e
 refine LoneTo.goes (n := 60) ?_
 simp only [Tryd.f39, Option.getD_some]
 s_c stepG_seq
 s_reg
 s_op
 s_op
 s_c stepG_region_end
 s_c stepG_seq
 s_c stepG_seq
 s_reg
 s_op
 s_op
 s_op
 s_op
 s_c stepG_region_end
 s_cond false
 s_c stepG_skip
 s_c stepG_seq
 s_c stepG_seq
 s_reg
 s_op
 s_op
 s_op
 s_op
 s_c stepG_region_end
 s_reg
 s_op
 s_c stepG_region_end
 s_c stepG_seq
 s_reg
 s_stop
 refine LoneTo.step (step_lone_select_send_full (c := c) (cap := cap) (buf := buf) (s := s) (r := r) (tm := false) (stepG_comm (cases := #[scase c (.agg #[.int .i64 k, .int .i64 m, .int .i64 R, .int .i64 C, .slice a n q]) (.agg #[.int .i64 0, .int .i64 0, .int .i64 0, .int .i64 0, .slice none 0 0])]) (blocking := false) (shape := .select) (w' := w.alloc (.cells #[.int .i64 k, .int .i64 m, .int .i64 R, .int .i64 C, .slice a n q] 26)) rfl rfl (by decide) (by simp [execOp, scase, Act.eval])) (heap_alloc_old h.ch) hfull) ?_
 rw [Frame.finish_at]
 walk_nrm
 refine LoneTo.goes (n := 20) ?_
 s_op
 s_op
 s_c stepG_region_end
 s_c stepG_block
 s_cond false
 s_c stepG_seq
 s_reg
 s_op
 s_op
 s_c stepG_region_end
 s_c stepG_ret'
 s_stop
 refine LoneTo.done ⟨.returned (errV 3), _, rfl, ⟨rfl, (Far.refl _ w).al _, heap_alloc_old h.ch⟩, rfl, rfl, rfl, rfl, _, Tryd.func39, by simp [results, Tryd.f39, Frame.at, errV]⟩
theorem queuePut_shut (h : QAt w p c cap buf true s r) :
  Calls Tryd.prog 39 #[.pointer (some ⟨p, 0, none⟩), .agg v] w (PutEnd w p c cap buf true s r (errV 5)) := by
 subst hv
 have c0 := h.box.cell 0
 have c1 := h.box.cell 1
 have hz := h.box.lt
 have hk : p < w.heap.size + 1 := by omega
 refine calls_of_loneTo fun cs => ?_
 have e : Frame.enter Tryd.prog 39 #[.pointer (some ⟨p, 0, none⟩), .agg #[.int .i64 k, .int .i64 m, .int .i64 R, .int .i64 C, .slice a n q]] .normal = (base 39).at ⟨#[.pointer (some ⟨p, 0, none⟩), .agg #[.int .i64 k, .int .i64 m, .int .i64 R, .int .i64 C, .slice a n q], undef, undef, undef, undef, undef, undef, undef, undef, undef, undef, undef, undef, undef, undef, undef, undef, undef], []⟩ [.code (Tryd.f39.body.getD .skip)] := by
  simp [Frame.enter, Frame.at, Tryd.func39, base, Tryd.f39]
 rw [e]
 clear e
 refine LoneTo.goes (n := 60) ?_
 simp only [Tryd.f39, Option.getD_some]
 s_c stepG_seq
 s_reg
 s_op
 s_op
 s_c stepG_region_end
 s_c stepG_seq
 s_c stepG_seq
 s_reg
 s_op
 s_op
 s_op
 s_op
 s_c stepG_region_end
 s_cond true
 s_c stepG_seq
 s_reg
 s_op
 s_op
 s_c stepG_region_end
 s_c stepG_ret'
 s_stop
 refine LoneTo.done ⟨.returned (errV 5), _, rfl, ⟨rfl, (Far.refl _ w).al _, heap_alloc_old h.ch⟩, rfl, rfl, rfl, rfl, _, Tryd.func39, by simp [results, Tryd.f39, Frame.at, errV]⟩
end
theorem queueTake_none (p c cap : Nat) (s r : Nat) (w : World) (h : QAt w p c cap #[] false s r) :
  Calls Tryd.prog 40 #[.pointer (some ⟨p, 0, none⟩)] w (PutEnd w p c cap #[] false s r (.tuple #[.agg #[.int .i64 0, .int .i64 0, .int .i64 0, .int .i64 0, .slice none 0 0], errV 4])) := by
 have c0 := h.box.cell 0
 have c1 := h.box.cell 1
 have hz := h.box.lt
 have hk : p < w.heap.size + 1 := by omega
 have hk2 : p < w.heap.size + 1 + 1 := by omega
 have hcz := heap_lt h.ch
 have hcn : w.heap.size ≠ c := by omega
 have hcn1 : w.heap.size + 1 ≠ c := by omega
 have hcn2 : w.heap.size + 1 + 1 ≠ c := by omega
 refine calls_of_loneTo fun cs => ?_
 have e : Frame.enter Tryd.prog 40 #[.pointer (some ⟨p, 0, none⟩)] .normal = (base 40).at ⟨#[.pointer (some ⟨p, 0, none⟩), undef, undef, undef, undef, undef, undef, undef, undef, undef, undef, undef, undef, undef, undef, undef, undef, undef, undef, undef, undef, undef, undef], []⟩ [.code (Tryd.f40.body.getD .skip)] := by
  simp [Frame.enter, Frame.at, Tryd.func40, base, Tryd.f40]
  try rfl
 rw [e]
 clear e
 refine LoneTo.goes (n := 60) ?_
 simp only [Tryd.f40, Option.getD_some]
 s_c stepG_seq
 s_reg
 s_op
 s_op
 s_c stepG_region_end
 s_c stepG_seq
 s_reg
 s_op
 s_c stepG_region_end
 s_c stepG_seq
 s_reg
 s_op
 s_op
 s_op
 s_op
 s_c stepG_region_end
 s_c stepG_seq
 s_reg
 s_stop
 refine LoneTo.step (step_lone_select_default (c := c) (cap := cap) (s := s) (r := r) (tm := false) (stepG_comm (cases := #[rcase c (.agg #[.int .i64 0, .int .i64 0, .int .i64 0, .int .i64 0, .slice none 0 0])]) (blocking := false) (shape := .select) (w' := (w.alloc (.cells #[.int .i64 0, .int .i64 0, .int .i64 0, .int .i64 0, .slice none 0 0] 26)).alloc (.cells #[.int .i64 0, .int .i64 0, .int .i64 0, .int .i64 0, .slice none 0 0] 26)) rfl rfl (by decide) (by simp [execOp, rcase, Act.eval])) (heap_alloc_old (heap_alloc_old h.ch))) ?_
 rw [Frame.finish_at]
 walk_nrm
 refine LoneTo.goes (n := 20) ?_
 s_op
 s_op
 s_c stepG_region_end
 s_c stepG_block
 s_cond false
 s_c stepG_seq
 s_reg
 s_op
 s_op
 s_op
 s_op
 s_c stepG_region_end
 s_c stepG_ret'
 s_stop
 refine LoneTo.done ⟨.returned (.tuple #[.agg #[.int .i64 0, .int .i64 0, .int .i64 0, .int .i64 0, .slice none 0 0], errV 4]), _, rfl, ⟨rfl, ?_, ?_⟩, rfl, rfl, rfl, rfl, _, Tryd.func40, ?_⟩
 ·exact ((Far.refl _ w).al _).al _
 ·exact heap_alloc_old (heap_alloc_old h.ch)
 ·simp [results, Tryd.f40, Frame.at, errV, go_sem]
theorem queueTake_shut (p c cap : Nat) (s r : Nat) (w : World) (h : QAt w p c cap #[] true s r) :
  Calls Tryd.prog 40 #[.pointer (some ⟨p, 0, none⟩)] w (PutEnd w p c cap #[] true s r (.tuple #[.agg #[.int .i64 0, .int .i64 0, .int .i64 0, .int .i64 0, .slice none 0 0], errV 5])) := by
 have c0 := h.box.cell 0
 have c1 := h.box.cell 1
 have hz := h.box.lt
 have hk : p < w.heap.size + 1 := by omega
 have hk2 : p < w.heap.size + 1 + 1 := by omega
 have hcz := heap_lt h.ch
 have hcn : w.heap.size ≠ c := by omega
 have hcn1 : w.heap.size + 1 ≠ c := by omega
 have hcn2 : w.heap.size + 1 + 1 ≠ c := by omega
 refine calls_of_loneTo fun cs => ?_
 have e : Frame.enter Tryd.prog 40 #[.pointer (some ⟨p, 0, none⟩)] .normal = (base 40).at ⟨#[.pointer (some ⟨p, 0, none⟩), undef, undef, undef, undef, undef, undef, undef, undef, undef, undef, undef, undef, undef, undef, undef, undef, undef, undef, undef, undef, undef, undef], []⟩ [.code (Tryd.f40.body.getD .skip)] := by
  simp [Frame.enter, Frame.at, Tryd.func40, base, Tryd.f40]
  try rfl
 rw [e]
 clear e
 refine LoneTo.goes (n := 60) ?_
 simp only [Tryd.f40, Option.getD_some]
 s_c stepG_seq
 s_reg
 s_op
 s_op
 s_c stepG_region_end
 s_c stepG_seq
 s_reg
 s_op
 s_c stepG_region_end
 s_c stepG_seq
 s_reg
 s_op
 s_op
 s_op
 s_op
 s_c stepG_region_end
 s_c stepG_seq
 s_reg
 s_stop
 refine LoneTo.step (step_lone_select_recv_shut (c := c) (cap := cap) (s := s) (r := r) (tm := false) (stepG_comm (cases := #[rcase c (.agg #[.int .i64 0, .int .i64 0, .int .i64 0, .int .i64 0, .slice none 0 0])]) (blocking := false) (shape := .select) (w' := (w.alloc (.cells #[.int .i64 0, .int .i64 0, .int .i64 0, .int .i64 0, .slice none 0 0] 26)).alloc (.cells #[.int .i64 0, .int .i64 0, .int .i64 0, .int .i64 0, .slice none 0 0] 26)) rfl rfl (by decide) (by simp [execOp, rcase, Act.eval])) (heap_alloc_old (heap_alloc_old h.ch))) ?_
 rw [Frame.finish_at]
 walk_nrm
 refine LoneTo.goes (n := 40) ?_
 s_op
 s_op
 s_c stepG_region_end
 s_c stepG_block
 s_cond true
 s_c stepG_seq
 s_reg
 s_op
 s_op
 s_op
 s_op
 s_op
 s_c stepG_region_end
 s_c stepG_seq
 s_c stepG_seq
 s_reg
 s_op
 s_op
 s_c stepG_region_end
 s_cond true
 s_c stepG_seq
 s_reg
 s_op
 s_op
 s_op
 s_op
 s_c stepG_region_end
 s_c stepG_ret'
 s_stop
 refine LoneTo.done ⟨.returned (.tuple #[.agg #[.int .i64 0, .int .i64 0, .int .i64 0, .int .i64 0, .slice none 0 0], errV 5]), _, rfl, ⟨rfl, ?_, ?_⟩, rfl, rfl, rfl, rfl, _, Tryd.func40, ?_⟩
 ·exact (((Far.refl _ w).al _).al _).al _
 ·exact heap_alloc_old (heap_alloc_old (heap_alloc_old h.ch))
 ·simp [results, Tryd.f40, Frame.at, errV, go_sem]
theorem queueTake_some (p c cap : Nat) (buf : Array Value) (cl : Bool) (s r : Nat) (w : World) (k m R C : Int) (a : Option Addr) (n q : Nat) (h : QAt w p c cap buf cl s r) (hs : 0 < buf.size) (hv : buf.getD 0 undef = .agg #[.int .i64 k, .int .i64 m, .int .i64 R, .int .i64 C, .slice a n q]) :
  Calls Tryd.prog 40 #[.pointer (some ⟨p, 0, none⟩)] w (PutEnd w p c cap (buf.extract 1 buf.size) cl s (r + 1) (.tuple #[.agg #[.int .i64 k, .int .i64 m, .int .i64 R, .int .i64 C, .slice a n q], .nilIface])) := by
 have c0 := h.box.cell 0
 have c1 := h.box.cell 1
 have hz := h.box.lt
 have hk : p < w.heap.size + 1 := by omega
 have hk2 : p < w.heap.size + 1 + 1 := by omega
 have hcz := heap_lt h.ch
 have hcn : w.heap.size ≠ c := by omega
 have hcn1 : w.heap.size + 1 ≠ c := by omega
 have hcn2 : w.heap.size + 1 + 1 ≠ c := by omega
 refine calls_of_loneTo fun cs => ?_
 have e : Frame.enter Tryd.prog 40 #[.pointer (some ⟨p, 0, none⟩)] .normal = (base 40).at ⟨#[.pointer (some ⟨p, 0, none⟩), undef, undef, undef, undef, undef, undef, undef, undef, undef, undef, undef, undef, undef, undef, undef, undef, undef, undef, undef, undef, undef, undef], []⟩ [.code (Tryd.f40.body.getD .skip)] := by
  simp [Frame.enter, Frame.at, Tryd.func40, base, Tryd.f40]
  try rfl
 rw [e]
 clear e
 refine LoneTo.goes (n := 60) ?_
 simp only [Tryd.f40, Option.getD_some]
 s_c stepG_seq
 s_reg
 s_op
 s_op
 s_c stepG_region_end
 s_c stepG_seq
 s_reg
 s_op
 s_c stepG_region_end
 s_c stepG_seq
 s_reg
 s_op
 s_op
 s_op
 s_op
 s_c stepG_region_end
 s_c stepG_seq
 s_reg
 s_stop
 refine LoneTo.step (step_lone_select_recv_buf (c := c) (cap := cap) (buf := buf) (closed := cl) (s := s) (r := r) (tm := false) (stepG_comm (cases := #[rcase c (.agg #[.int .i64 0, .int .i64 0, .int .i64 0, .int .i64 0, .slice none 0 0])]) (blocking := false) (shape := .select) (w' := (w.alloc (.cells #[.int .i64 0, .int .i64 0, .int .i64 0, .int .i64 0, .slice none 0 0] 26)).alloc (.cells #[.int .i64 0, .int .i64 0, .int .i64 0, .int .i64 0, .slice none 0 0] 26)) rfl rfl (by decide) (by simp [execOp, rcase, Act.eval])) (heap_alloc_old (heap_alloc_old h.ch)) hs) ?_
 rw [Frame.finish_at, hv]
 have HV := Lib.hid hv
 obtain ⟨bx, hbx⟩ : ∃ bx, buf.extract 1 buf.size = bx := ⟨_, rfl⟩
 rw [hbx]
 clear hv hbx
 obtain ⟨wc, hwc, hcc, hwz, hf, hq⟩ : ∃ wc, ((w.alloc (.cells #[.int .i64 0, .int .i64 0, .int .i64 0, .int .i64 0, .slice none 0 0] 26)).alloc (.cells #[.int .i64 0, .int .i64 0, .int .i64 0, .int .i64 0, .slice none 0 0] 26)).setChan c cap bx cl s (r + 1) false = wc ∧ wc.heap[c]? = some (.chan cap bx cl s (r + 1) false) ∧ wc.heap.size = w.heap.size + 2 ∧ Far (fun b => b = c) w wc ∧ Box wc w.heap.size [.int .i64 0, .int .i64 0, .int .i64 0, .int .i64 0, .slice none 0 0] 26 := ⟨_, rfl, heap_setChan _ _ _ _ _ _ _ _ (heap_lt (heap_alloc_old (heap_alloc_old h.ch))), by simp [World.setChan], ((((Far.refl (fun b => b = c) w).al _).al _).setChan (S := fun b => b = c) (fun _ => rfl) _ _ _ _ _ _), ((Box.new w _ _).alloc _).farS ((Far.refl (fun b => b = c) _).setChan (S := fun b => b = c) (fun _ => rfl) _ _ _ _ _ _) hcn⟩
 rw [hwc]
 clear hwc
 have d0 := hq.cell 0
 have g0 := hq.thawed 0
 have d1 := hq.cell 1
 have g1 := hq.thawed 1
 have d2 := hq.cell 2
 have g2 := hq.thawed 2
 have d3 := hq.cell 3
 have g3 := hq.thawed 3
 have d4 := hq.cell 4
 have g4 := hq.thawed 4
 have hwk : w.heap.size < wc.heap.size := by omega
 walk_nrm
 refine LoneTo.goes (n := 40) ?_
 s_op
 s_op
 s_c stepG_region_end
 s_c stepG_block
 s_cond true
 s_c stepG_seq
 s_reg
 s_op
 s_op
 s_op
 s_op
 s_op
 s_c stepG_region_end
 s_c stepG_seq
 s_c stepG_seq
 s_reg
 s_op
 s_op
 s_c stepG_region_end
 s_cond false
 s_c stepG_skip
 s_c stepG_seq
 s_reg
 s_op
 s_op
 s_op
 s_c stepG_region_end
 s_c stepG_ret'
 s_stop
 have bz := ((((hq.set 0 (.int .i64 k)).set 1 (.int .i64 m)).set 2 (.int .i64 R)).set 3 (.int .i64 C)).set 4 (.slice a n q)
 have z0 := bz.cell 0
 have z1 := bz.cell 1
 have z2 := bz.cell 2
 have z3 := bz.cell 3
 have z4 := bz.cell 4
 have hx : ∀ {P : Prop}, w.heap.size < w.heap.size → P := fun h => absurd h (Nat.lt_irrefl _)
 refine LoneTo.done ⟨.returned (.tuple #[.agg #[.int .i64 k, .int .i64 m, .int .i64 R, .int .i64 C, .slice a n q], .nilIface]), _, rfl, ⟨rfl, (((((hf.st hx _).st hx _).st hx _).st hx _).st hx _).al _, heap_alloc_old (heap_st_old (heap_st_old (heap_st_old (heap_st_old (heap_st_old hcc hcn) hcn) hcn) hcn) hcn)⟩, rfl, rfl, rfl, rfl, _, Tryd.func40, ?_⟩
 clear bz hx d0 d1 d2 d3 d4 g0 g1 g2 g3 g4
 simp [results, Tryd.f40, Frame.at, errV, go_sem, z0, z1, z2, z3, z4, hwk]
end Go.Proofs.YtgknjikjjklaiaaDoor
end
