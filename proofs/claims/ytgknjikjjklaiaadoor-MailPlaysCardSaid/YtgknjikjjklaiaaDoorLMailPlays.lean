/- MailPlays: any calls on any box: what is taken out is what was put in, in its order: the law returns true. No condition. -/
import Derived.Test.YtgknjikjjklaiaaDoorCards
import Derived.Test.YtgknjikjjklaiaaDoorTie
import Derived.Test.YtgknjikjjklaiaaDoorJ08
import Derived.Test.YtgknjikjjklaiaaDoorJ09
import Derived.Test.YtgknjikjjklaiaaDoorJ06
import Derived.Test.YtgknjikjjklaiaaDoorJ10
import Derived.Test.YtgknjikjjklaiaaDoorJ18
import Derived.Test.YtgknjikjjklaiaaDoorJ20
import Derived.Test.YtgknjikjjklaiaaDoorJ22
import Derived.Deep.DeepHandedRow
set_option linter.unusedVariables false
set_option linter.unusedSimpArgs false
set_option linter.unusedSectionVars false
set_option maxRecDepth 100000
namespace Go.Proofs.YtgknjikjjklaiaaDoor.lawMailPlays
open Go.ChangeShapes Go.WideShapes Go.ChangeAt Go.RowKit Gal
set_option maxHeartbeats 8000000
/-- what lies in the box reads as messages; their cells lie in blocks of F -/
def BufAt (w : World) (F : Nat → Prop) (vs : Array Value) (ms : List MsgD) : Prop :=
 vs.size = ms.length ∧ ∀ (i : Nat) m, ms[i]? = some m → ∃ a n k b, vs[i]? = some (.agg #[.int .i64 m.kind, .int .i64 m.micro, .int .i64 m.body.rows, .int .i64 m.body.cols, .slice a n k]) ∧ (0 < n → F b) ∧ IntsAt w a n k b 0 m.body.cells
theorem BufAt.nil (w : World) (F : Nat → Prop) : BufAt w F #[] [] := ⟨rfl, fun i m h => by simp at h⟩
theorem BufAt.kept {w w' : World} {F : Nat → Prop} {vs : Array Value} {ms : List MsgD} (h : BufAt w F vs ms) (hF : ∀ b, F b → b < w.heap.size → w'.heap[b]? = w.heap[b]?) : BufAt w' F vs ms :=
 ⟨h.1, fun i m hm => by
  obtain ⟨a, n, k, b, h1, h2, h3⟩ := h.2 i m hm
  exact ⟨a, n, k, b, h1, h2, h3.len, h3.le, h3.maxc, h3.ptr, fun hn => lt_of_heap (h3.lt hn) (hF b (h2 hn) (h3.lt hn)), fun j hj => (World.cell?_of_block (a := ⟨b, 0 + j, none⟩) (hF b (h2 (by omega)) (h3.lt (by omega)))).trans (h3.cell j hj)⟩⟩
theorem BufAt.wide {w : World} {F G : Nat → Prop} {vs : Array Value} {ms : List MsgD} (h : BufAt w F vs ms) (hF : ∀ b, F b → b < w.heap.size → G b) : BufAt w G vs ms :=
 ⟨h.1, fun i m hm => by
  obtain ⟨a, n, k, b, h1, h2, h3⟩ := h.2 i m hm
  exact ⟨a, n, k, b, h1, fun hn => hF b (h2 hn) (h3.lt hn), h3⟩⟩
theorem BufAt.farS {S : Nat → Prop} {w w' : World} {F : Nat → Prop} {vs : Array Value} {ms : List MsgD} (h : BufAt w F vs ms) (hf : Far S w w') (hS : ∀ b, F b → b < w.heap.size → ¬ S b) : BufAt w' F vs ms := h.kept fun b hb hl => hf.block b hl (hS b hb hl)
theorem BufAt.keep {w w' : World} {F : Nat → Prop} {vs : Array Value} {ms : List MsgD} (h : BufAt w F vs ms) (hb : Below w.heap.size w w') : BufAt w' F vs ms := h.kept fun b _ hl => hb.block b hl
theorem BufAt.push {w : World} {F : Nat → Prop} {vs : Array Value} {ms : List MsgD} {m : MsgD} {a : Option Addr} {n k b : Nat} (h : BufAt w F vs ms) (hF : 0 < n → F b) (hi : IntsAt w a n k b 0 m.body.cells) :
  BufAt w F (vs.push (.agg #[.int .i64 m.kind, .int .i64 m.micro, .int .i64 m.body.rows, .int .i64 m.body.cols, .slice a n k])) (ms ++ [m]) :=
 ⟨by simp [h.1], fun i x hx => by
  have hs := h.1
  rcases Nat.lt_or_ge i ms.length with h1 | h1
  ·rw [List.getElem?_append_left h1] at hx
   obtain ⟨a', n', k', b', e, h2, h3⟩ := h.2 i x hx
   exact ⟨a', n', k', b', by rw [Array.getElem?_push_lt (by omega)]; rw [Array.getElem?_eq_getElem (by omega)] at e; exact e, h2, h3⟩
  ·rw [List.getElem?_append_right h1] at hx
   have e0 : i - ms.length = 0 := by
    rcases Nat.eq_zero_or_pos (i - ms.length) with q | q
    ·exact q
    ·rw [List.getElem?_eq_none (by simp; omega)] at hx; cases hx
   rw [e0] at hx
   simp at hx
   subst hx
   obtain rfl : i = vs.size := by omega
   exact ⟨a, n, k, b, by simp, hF, hi⟩⟩
theorem BufAt.tail {w : World} {F : Nat → Prop} {vs : Array Value} {m : MsgD} {ms : List MsgD} (h : BufAt w F vs (m :: ms)) : BufAt w F (vs.extract 1 vs.size) ms :=
 ⟨by have := h.1; simp at this ⊢; omega, fun i x hx => by
  obtain ⟨a, n, k, b, h1, h2, h3⟩ := h.2 (i + 1) x (by simpa using hx)
  refine ⟨a, n, k, b, ?_, h2, h3⟩
  have hl := (Array.getElem?_eq_some_iff.1 h1).1
  rw [Array.getElem?_extract, if_pos (by omega), Nat.add_comm 1 i]
  exact h1⟩
theorem nilInts (w : World) : IntsAt w none 0 0 0 0 [] := ⟨rfl, Nat.le_refl _, Nat.zero_le _, fun h => absurd h (Nat.lt_irrefl _), fun h => absurd h (Nat.lt_irrefl _), fun i hi => absurd hi (Nat.not_lt_zero _)⟩
theorem own_ints7 {w : World} {base : Nat} {F : Nat → Prop} {v : Value} {xs : List Int} (h : OwnRow Form.int 3 w base F v xs) :
  ∃ a k b, v = .slice a xs.length k ∧ (0 < xs.length → base ≤ b ∧ a = some ⟨b, 0, none⟩ ∧ ∃ cs, Box w b cs 3 ∧ xs.length ≤ cs.length) ∧ IntsAt w a xs.length k b 0 xs := by
 obtain ⟨a, k, b, hv, hb, hr⟩ := h.row (G := anyB) (fun _ _ _ => trivial) (fun _ _ => trivial)
 refine ⟨a, k, b, hv, fun hn => ?_, hr.ints⟩
 obtain ⟨cs, ⟨_, h2⟩, _⟩ := h.holds
 have ha := hr.ptr hn
 rcases h2 with ⟨e, h0⟩ | ⟨g, cap, cur, e, hg, hh, h3, _, h5, _⟩
 ·rw [hv] at e; simp at e; omega
 ·rw [hv, ha] at e
  simp at e
  obtain ⟨rfl, rfl⟩ := e
  have h6 : Form.int.size = 1 := rfl
  rw [h6] at h5
  exact ⟨hb hn, ha, cur.toList, by unfold Box; simpa using hh, by simp; omega⟩
theorem qat_far {w w' : World} {p c cap : Nat} {buf : Array Value} {cl : Bool} {s r B : Nat} {S : Nat → Prop} (h : QAt w p c cap buf cl s r) (hf : Far S w w') (hS : ∀ b, S b → B ≤ b) (hB : p < B ∧ c < B) : QAt w' p c cap buf cl s r :=
 ⟨h.box.farS hf (fun e => by have := hS _ e; omega), (hf.block c (heap_lt h.ch) (fun e => by have := hS _ e; omega)).trans h.ch⟩
theorem far_beyond {S T : Nat → Prop} {a b c : World} (h : Far S a b) (k : Far T b c) (hT : ∀ i, T i → a.heap.size ≤ i) : Far S a c :=
 ⟨k.os.trans h.os, k.tape.trans h.tape, k.output.trans h.output, Nat.le_trans h.size k.size, fun i hi hs => (k.block i (Nat.lt_of_lt_of_le hi h.size) (fun e => by have := hT i e; omega)).trans (h.block i hi hs)⟩
theorem info_msg5 : (Tryd.prog.info? 26).map (fun i => (i.zero, i.size, i.bytes)) = some (some (.agg #[.int .i64 0, .int .i64 0, .int .i64 0, .int .i64 0, .slice none 0 0]), 5, 56) := by kernel_rfl
theorem qBlock_tail {b o k n n' cap g : Nat} (h : qBlock (.slice (if cap = 1 then some ⟨b, o, none⟩ else some ⟨b, o + k, none⟩) n' (cap - 1)) = some g) : qBlock (.slice (some ⟨b, o, none⟩) n cap) = some g := by
 by_cases hc : cap = 1
 ·subst hc
  simp [qBlock] at h
 ·rw [if_neg hc] at h
  simp only [qBlock] at h ⊢
  by_cases h1 : cap - 1 = 0
  ·rw [if_pos h1] at h; cases h
  ·rw [if_neg h1] at h
   rw [if_neg (by omega)]
   exact h
theorem qb_ne {w : World} {p c cap : Nat} {buf : Array Value} {cl : Bool} {s r base : Nat} {F : Nat → Prop} {u : Value} {ms : List MsgD} (hq : QAt w p c cap buf cl s r) (hrow : QRow Form.msg 26 w base F u ms) : ∀ b, qBlock u = some b → b ≠ c ∧ b ≠ p := fun b hb => by
 obtain ⟨cur, hcur⟩ := hrow.isCells hb
 refine ⟨fun e => ?_, fun e => ?_⟩
 ·subst e
  have h1 := hq.ch
  rw [hcur] at h1
  cases h1
 ·subst e
  have h1 := hq.box
  unfold Box at h1
  rw [hcur] at h1
  cases h1
theorem walk (n : Int) (l : List MOp) (v1 : Value) (w : World) (hn : (Lit.int .i64 n).wf = true) (hl : MopsIn w v1 l) (hh : Handle w) :
  Calls Tryd.prog 4 #[.int .i64 n, v1] w fun e w' => e = .returned (.bool true) ∧ Below w.heap.size w w' := by
 obtain ⟨⟨aL, L, kL, bL, oL, rfl, hl⟩, hz, hwi⟩ := hl
 clear hn
 by_cases hb : n < 1 ∨ 16 < n
 ·have HB := Lib.hid hb
  have hcases : ∀ (P : Prop), (n < 1 → P) → (¬ n < 1 → 16 < n → P) → P := fun P h1 h2 => by
   by_cases h : n < 1
   ·exact h1 h
   ·rcases hb with h' | h'
    ·exact h1 h'
    ·exact h2 h h'
  clear hb hl hz hwi
  refine hcases _ (fun h1 => ?_) (fun h1 h2 => ?_)
  ·have e1 : (n < 1) = True := eq_true h1
   clear hcases h1
   -- there is no box of such a size
   go_enter Tryd.func4, Tryd.ntmps4
   go_wp2_with fail
   refine (mailNew_bad n _ HB.out).mono ?_
   rintro e w1 ⟨rfl, rfl⟩
   go_wp2_with fail
   refine (error_any 1 1 _ hh).mono ?_
   rintro e w2 ⟨rfl, hb2⟩
   rw [decide_eq_true rfl]
   go_wp2
   go_ret
   exact ⟨rfl, hb2⟩
  ·have e1 : (n < 1) = False := eq_false h1
   have e2 : (n > 16) = True := eq_true h2
   clear hcases h1 h2
   -- there is no box of such a size
   go_enter Tryd.func4, Tryd.ntmps4
   go_wp2_with fail
   refine (mailNew_bad n _ HB.out).mono ?_
   rintro e w1 ⟨rfl, rfl⟩
   go_wp2_with fail
   refine (error_any 1 1 _ hh).mono ?_
   rintro e w2 ⟨rfl, hb2⟩
   rw [decide_eq_true rfl]
   go_wp2
   go_ret
   exact ⟨rfl, hb2⟩
 ·obtain ⟨N, rfl⟩ : ∃ N : Nat, n = (N : Int) := ⟨n.toNat, by omega⟩
  have hN1 : 1 ≤ N := by omega
  have hN2 : N ≤ 16 := by omega
  have e1 : ((N : Int) < 1) = False := eq_false (by omega)
  have e2 : ((N : Int) > 16) = False := eq_false (by omega)
  obtain ⟨i0, ii0, ii1, ii2, ii3⟩ := info_parts info_int'
  have HLL := Lib.hid hl.len
  have HZ : Hid (L * 64 ≤ 140737488355328) := Lib.hid (by have := hl.len; unfold reachBytes at hz; omega)
  have HWI : Hid (∀ (i : Nat) x, l[i]? = some x → x.m.body.cells.length * 8 ≤ 140737488355328) := Lib.hid (fun i x h => by have := hwi i x h; unfold reachBytes at this; omega)
  clear hb hz hwi
  go_enter Tryd.func4, Tryd.ntmps4
  go_wp2_with fail
  refine (mailNew_ok N _ hN1 hN2).mono ?_
  rintro e w1 ⟨rfl, hb1, hq, hw1s⟩
  obtain ⟨c, hc⟩ : ∃ c, w.heap.size = c := ⟨_, rfl⟩
  obtain ⟨p, hp⟩ : ∃ p, c + 1 = p := ⟨_, rfl⟩
  rw [hc] at hq
  rw [hp] at hq
  rw [hc] at hw1s
  have hw1z : w1.heap.size ≤ c + 2 := by omega
  clear hw1s
  have hhl := hh.lt
  have hhc : 1 < c := by omega
  replace hh := hh.keep hb1
  replace hl := (hl.wide (G := fun b => b < c) (fun b _ h => by omega)).keep hb1
  have HC := Lib.hid hc
  have HP := Lib.hid hp
  have hcw : c ≤ w.heap.size := by omega
  have hwc : w.heap.size ≤ c := by omega
  have hpc : p ≤ c + 1 := by omega
  have hcp : c + 1 ≤ p := by omega
  have hLb : L ≤ 9223372036854775807 := by have := HZ.out; omega
  clear hc hp hhl
  go_wp2_with fail
  rw [HC.out]
  try rw [HP.out]
  go_loopw [7, 8, 9] (fun u g i wr => ∃ (t : Nat) (ms : List MsgD) (vs : Array Value) (cl : Bool) (s r : Nat), t ≤ L ∧ i = .int .i64 t ∧ g = .bool cl ∧ QAt wr p c N vs cl s r ∧ QRow Form.msg 26 wr c (fun b => b < c) u ms ∧ BufAt wr (fun b => c + 2 ≤ b ∧ qBlock u ≠ some b) vs ms ∧ ms.length ≤ t ∧ ms.length ≤ N ∧ Below w.heap.size w wr ∧ Far (fun b => b = c ∨ b = p) w1 wr) (fun _ _ i _ => L - (intOf i).toNat)
  case atStart => exact ⟨0, [], #[], false, 0, 0, Nat.zero_le _, rfl, rfl, hq, QRow.nil, BufAt.nil _ _, Nat.le_refl _, Nat.zero_le _, hb1, Far.refl _ _⟩
  case round =>
   clear hq
   obtain ⟨t, ms, vs, cl, s, r, ht, rfl, rfl, hq, hrow, hbuf, hmt, hmN, hbr, hfr⟩ := hrel
   replace hh := hh.farS hfr (by rintro (e | e) <;> omega)
   replace hl := hl.farS hfr (fun b hb _ => by rintro (e | e) <;> omega)
   have hzr := hfr.size
   have hqz := hq.box.lt
   by_cases hlt : t < L
   ·have hltI : (t : Int) < (L : Int) := by omega
    have ht0 : (0 : Int) ≤ (t : Int) := by omega
    obtain rfl := hl.ptr (by omega)
    obtain ⟨x, hx⟩ : ∃ x, l[t]? = some x := ⟨_, List.getElem?_eq_getElem (by rw [HLL.out]; exact hlt)⟩
    obtain ⟨cs, hr, hcell⟩ := hl.cell t x hx
    obtain ⟨aX, nX, kX, bX, oX, rfl, hXF, xi⟩ := mop_reads hr
    have hs6 : Form.mop.size = 6 := rfl
    rw [hs6] at hcell
    have x0 := hcell 0 (by omega)
    have x1 := hcell 1 (by omega)
    have x2 := hcell 2 (by omega)
    have x3 := hcell 3 (by omega)
    have x4 := hcell 4 (by omega)
    have x5 := hcell 5 (by omega)
    simp only [Nat.add_zero] at x0
    have HXN : Hid (nX * 8 ≤ 140737488355328) := Lib.hid (by have := HWI.out t x hx; have := xi.len; omega)
    clear hcell hr hs6 hx hl
    by_cases hk1 : x.kind = 1
    ·rw [hk1] at x0
     clear hk1
     have HXI := Lib.hid xi
     obtain ⟨W2, hW2, B10, B12, hb2⟩ : ∃ W2, (wr.alloc (.cells #[.int .i64 1, .int .i64 x.m.kind, .int .i64 x.m.micro, .int .i64 x.m.body.rows, .int .i64 x.m.body.cols, .slice aX nX kX] 44)).alloc (.cells #[.int .i64 x.m.kind, .int .i64 x.m.micro, .int .i64 x.m.body.rows, .int .i64 x.m.body.cols, .slice aX nX kX] 26) = W2 ∧ Box W2 wr.heap.size [.int .i64 1, .int .i64 x.m.kind, .int .i64 x.m.micro, .int .i64 x.m.body.rows, .int .i64 x.m.body.cols, .slice aX nX kX] 44 ∧ Box W2 (wr.heap.size + 1) [.int .i64 x.m.kind, .int .i64 x.m.micro, .int .i64 x.m.body.rows, .int .i64 x.m.body.cols, .slice aX nX kX] 26 ∧ Below wr.heap.size wr W2 :=
      ⟨_, rfl, Box.x0, Box.x0, Below.x0⟩
     have HW2 := Lib.hid hW2
     have hw2s : W2.heap.size = wr.heap.size + 1 + 1 := by rw [← hW2]; simp
     have HW2S := Lib.hid hw2s
     have hlx := xi.len
     clear hW2 hw2s
     have xr : RowAt Form.int wr (fun b => b < c) aX nX kX bX oX x.m.body.cells := xi.row hXF
     go_wp2_with (at_builtin; go_must (refine wpList_append_row rfl (.tmp 57) (.tmp 61) 22 rfl Form.int (wr.heap.size + 1 + 1) 3 i0 (.int .i64 0) 8 Tryd.underlying22 ii0 ii1 ii2 ii3 rfl (by decide) (.slice (some ⟨wr.heap.size + 1 + 1, 0, none⟩) 0 0) [] rfl (OwnRow.made Form.int 3 _ _ _ _ #[] 0 (by simp) (by simp) (Nat.zero_le _) rfl) (fun b => b < c) aX nX kX bX oX x.m.body.cells rfl (xr.keep Below.x0) (fun b hb _ => by omega) (by have := HXN.out; simp; omega) (by have := HXN.out; unfold maxLen; simp; omega) (by simp) ?_))
     intro vM w3 hownM hgrowM
     rw [HW2.out] at hgrowM
     obtain ⟨aM, kM, bM, rfl, hbM, iM⟩ := own_ints7 hownM
     rw [hlx] at hbM iM ⊢
     have hb23 : Below W2.heap.size W2 w3 := Below.grown ((Below.refl _ W2).al _) hgrowM (by simp) (fun k hk => by have := HW2S.out; simp [Value.ownBlock] at hk; omega)
     have hbw3 : Below wr.heap.size wr w3 := hb2.trans (hb23.mono hb2.size)
     replace B10 := B10.keep hb23
     replace B12 := B12.keep hb23
     have hz3 := B12.lt
     have d4 := B12.cell 4
     have f4 := B12.thawed 4
     obtain ⟨w4, hw4, B12', hf4⟩ : ∃ w4, w3.setCell ⟨wr.heap.size + 1, 4, none⟩ (.slice aM nX kM) = w4 ∧ Box w4 (wr.heap.size + 1) [.int .i64 x.m.kind, .int .i64 x.m.micro, .int .i64 x.m.body.rows, .int .i64 x.m.body.cols, .slice aM nX kM] 26 ∧ Far (fun b => b = wr.heap.size + 1) w3 w4 := ⟨_, rfl, B12.set 4 _, (Far.refl (fun b => b = wr.heap.size + 1) w3).st (fun _ => rfl) _⟩
     have HW4 := Lib.hid hw4
     have hbM2 : 0 < nX → wr.heap.size + 1 + 1 ≤ bM := fun h => (hbM h).1
     have B10' := B10.farS hf4 (by omega)
     have hbw4 : Below wr.heap.size wr w4 := by rw [← hw4]; exact hbw3.setCell (by dsimp only; omega) _
     have iM4 := iM.farS hf4 (fun h e => by have := hbM2 h; omega)
     have HBM : Hid (0 < nX → aM = some ⟨bM, 0, none⟩ ∧ ∃ cs, Box w4 bM cs 3 ∧ nX ≤ cs.length) := Lib.hid (fun h => by
      obtain ⟨h1, h2, cs, h3, h4⟩ := hbM h
      exact ⟨h2, cs, h3.farS hf4 (by have := hbM2 h; omega), h4⟩)
     have hq4 := hq.keep hbw4
     have hrow4 := hrow.keep hbw4
     have hbuf4 := (hbuf.wide (G := fun b => (c + 2 ≤ b ∧ qBlock u7 ≠ some b) ∧ b < wr.heap.size) (fun b hb hl => ⟨hb, hl⟩)).keep hbw4
     have hh4 := hh.keep hbw4
     have hbr4 := hbr.trans (hbw4.mono hbr.size)
     have hfr4 := hfr.trans (Far.of_below hbw4)
     have hqu : ∀ b, qBlock u7 = some b → b < wr.heap.size := fun b hb => (hrow.lt hb).2
     have hz4 := hf4.size
     clear hq hrow hbuf hh hbr hfr hbM iM B10 B12 hownM hgrowM hb23 hbw3 hb2 xi xr hf4
     have y0 := B12'.cell 0
     have y1 := B12'.cell 1
     have y2 := B12'.cell 2
     have y3 := B12'.cell 3
     have y4 := B12'.cell 4
     have yz := B12'.lt
     have o1 := B10'.cell 1
     have o2 := B10'.cell 2
     have o3 := B10'.cell 3
     have o4 := B10'.cell 4
     have o5 := B10'.cell 5
     obtain ⟨aU, kU, hvU⟩ := hrow4.slice
     subst hvU
     cases cl with
     | true =>
      -- the box is handed the copy: the error (errV 5), put in: false, sends s, by (fun W v a' q' hQ hv => queuePut_shut v p c N vs s r W x.m.kind x.m.micro x.m.body.rows x.m.body.cols a' nX q' hv hQ); closed true
      go_wp2_with fail
      try rw [HW4.out]
      refine (boxPut_any p c N vs true s r w4 hq4 (errV 5) false s x.m.kind x.m.micro x.m.body.rows x.m.body.cols aM nX kM bM 0 x.m.body.cells HXN.out iM4 (fun W v a' q' hQ hv => queuePut_shut v p c N vs s r W x.m.kind x.m.micro x.m.body.rows x.m.body.cols a' nX q' hv hQ)).mono ?_
      rintro e w5 ⟨rfl, hf5, a5, q5, b5, hb5, i5, hc5⟩
      have hqb := qb_ne hq4 hrow4
      have hq5 : QAt w5 p c N _ true s r := ⟨hq4.box.farS hf5 (by omega), hc5⟩
      have hrow5 := hrow4.farS hf5 (fun b hb e => (hqb b hb).1 e) (fun b hb e => by omega)
      have hbuf5 := hbuf4.farS hf5 (fun b hb _ e => by omega)
      have hh5 := hh4.farS hf5 (fun e => by omega)
      have B12q := B12'.farS hf5 (by omega)
      have B10q := B10'.farS hf5 (by omega)
      have hz5 := hf5.size
      have hbr5 : Below w.heap.size w w5 := Far.toBelow hbr4 hf5 hbr4.size (fun k e => by omega)
      have hfr5 := hfr4.trans (hf5.wide (fun k _ e => Or.inl e))
      have HBM5 : Hid (0 < nX → aM = some ⟨bM, 0, none⟩ ∧ ∃ cs, Box w5 bM cs 3 ∧ nX ≤ cs.length) := Lib.hid (fun h => by
       obtain ⟨h2, cs, h3, h4⟩ := HBM.out h
       exact ⟨h2, cs, h3.farS hf5 (by have := hbM2 h; omega), h4⟩)
      try have xi5 := xi4.farS hf5 (fun h e => by have := hXF h; omega)
      clear hq4 hrow4 hbuf4 hh4 B12' B10' hbr4 hfr4 hf5 hc5 y0 y1 y2 y3 y4 o1 o2 o3 o4 o5 iM4 HBM
      have y0 := B12q.cell 4
      have yz5 := B12q.lt
      have o1 := B10q.cell 1
      have o2 := B10q.cell 2
      have o3 := B10q.cell 3
      have o4 := B10q.cell 4
      have o5 := B10q.cell 5
      have oz := B10q.lt
      go_wp2_with fail
      have hqS := hq5
      have hrowS := hrow5
      have hbufS := hbuf5.wide (G := fun b => (c + 2 ≤ b ∧ qBlock (Value.slice aU (ms.length) kU) ≠ some b) ∧ (0 < nX → b ≠ bM)) (fun b hb _ => ⟨hb.1, fun h e => by have := hb.2; have := hbM2 h; omega⟩)
      have hmF : ms.length ≤ t + 1 := by omega
      have hNF := hmN
      have hnXb : nX ≤ 9223372036854775807 := by have := HXN.out; omega
      have hhS := hh5
      have hbrS := hbr5
      have hfrS := hfr5
      have HBMS := HBM5
      have hsz2 : p < wr.heap.size + 1 + 1 ∧ c < wr.heap.size + 1 + 1 := by constructor <;> omega
      have hquS : ∀ b, qBlock (Value.slice aU (ms.length) kU) = some b → 0 < nX → b ≠ bM := fun b hb h e => by have := hqu b hb; have := hbM2 h; omega
      clear hq5 hrow5 hbuf5 hh5 hbr5 hfr5 HBM5
      -- what was handed in is the caller's: it is written over, at w5; then the error 5, and the round's end: messages ms, values vs, closed true
      go_loopw [15] (fun i wq => ∃ (j : Nat) (cs : List Value), j ≤ nX ∧ i = .int .i64 j ∧ Far (fun b => 0 < nX ∧ b = bM) w5 wq ∧ (0 < nX → Box wq bM cs 3 ∧ nX ≤ cs.length)) (fun i _ => nX - (intOf i).toNat)
      case atStart =>
       rcases Nat.eq_zero_or_pos nX with h | h
       ·exact ⟨0, [], Nat.zero_le _, rfl, Far.refl _ _, fun hh => by omega⟩
       ·obtain ⟨_, cs, h1, h2⟩ := HBMS.out h
        exact ⟨0, cs, Nat.zero_le _, rfl, Far.refl _ _, fun _ => ⟨h1, h2⟩⟩
      case round =>
       obtain ⟨j, cs, hj, rfl, hfq, hbq⟩ := hrel
       have B12r := B12q.farS hfq (fun e => by have := hbM2 e.1; omega)
       have k4 := B12r.cell 4
       have kz := B12r.lt
       by_cases hjl : j < nX
       ·obtain rfl := (HBMS.out (by omega)).1
        have hji : (j : Int) < (nX : Int) := by omega
        have hj0 : (0 : Int) ≤ (j : Int) := by omega
        obtain ⟨hB, hcl⟩ := hbq (by omega)
        obtain ⟨v, hv⟩ : ∃ v, wr.cell? ⟨bM, j, none⟩ = some v := ⟨cs[j], by rw [hB.cell, List.getElem?_eq_getElem (by omega)]⟩
        have hf := hB.thawed j
        have HR := Lib.hid (And.intro (hfq.st (a := ⟨bM, j, none⟩) (fun _ => ⟨by omega, rfl⟩) (.int .i64 7)) (And.intro (hB.set j (.int .i64 7)) (show nX ≤ (cs.set j (.int .i64 7)).length by simp; omega)))
        clear hfq hbq hB hcl B12r hqS hrowS hbufS hhS hbrS hfrS
        go_wp2
        go_roundw
        case rel => exact ⟨j + 1, cs.set j (.int .i64 7), by omega, by go_num, HR.out.1, fun _ => ⟨HR.out.2.1, HR.out.2.2⟩⟩
        case measure => simp [intOf]; omega
       ·obtain rfl : nX = j := by omega
        have hq6 := qat_far hqS hfq (fun b e => by have := hbM2 e.1; have := e.2; omega) hsz2
        have hrow6 := hrowS.farS hfq (fun b hb e => hquS b hb e.1 e.2) (fun b hb e => by have := hbM2 e.1; have := e.2; omega)
        have hbuf6 := (hbufS.farS hfq (fun b hb _ e => hb.2 e.1 e.2)).wide (fun b hb _ => hb.1)
        have hh6 := hhS.farS hfq (fun e => by have := hbM2 e.1; have := e.2; omega)
        have hbr6 : Below w.heap.size w wr := Far.toBelow hbrS hfq hbrS.size (fun k e => by have := hbM2 e.1; have := e.2; omega)
        have hfr6 := far_beyond hfrS hfq (fun k e => by have := hbM2 e.1; have := e.2; omega)
        clear hqS hrowS hbufS hhS hbrS hfrS hfq hbq B12q
        go_wp2_with fail
        refine (error_any 5 5 _ hh6).mono ?_
        rintro e w7 ⟨rfl, hb7⟩
        rw [decide_eq_true rfl]
        have hqF := hq6.keep hb7
        have hrowF := hrow6.keep hb7
        have hbufF := hbuf6.keep hb7
        have hbrF := hbr6.trans (hb7.mono hbr6.size)
        have hfF := hfr6.trans (Far.of_below hb7)
        clear hq6 hrow6 hbuf6 hbr6 hfr6 hh6 hb7
        go_wp2_with fail
        -- the round's end: facts hqF hrowF hbufF hmF hNF hbrF hfF at the world where Len is called; messages ms, values vs, closed true
        obtain ⟨aF, kF, hvF⟩ := hrowF.slice
        have hbs := hbufF.1
        have HFF := Lib.hid (And.intro hqF (And.intro hrowF (And.intro hbufF (And.intro hbrF hfF))))
        clear hrowF hbufF hbrF hfF
        refine (boxLen_any p c N vs true _ _ _ hqF).mono ?_
        rintro e wL ⟨rfl, rfl⟩
        rw [hbs]
        first
        | subst hvF
        | (simp only [Value.slice.injEq] at hvF; obtain ⟨rfl, rfl, rfl⟩ := hvF)
        | (simp only [Value.slice.injEq] at hvF; obtain ⟨rfl, -, rfl⟩ := hvF)
        have hkk : (((ms).length : Int) != ((ms).length : Int)) = false := by simp
        try simp only [List.length_nil] at hkk ⊢
        clear hbs hqF
        go_wp2
        go_roundw
        case rel => exact ⟨t + 1, ms, vs, true, _, _, by omega, by go_num, rfl, HFF.out.1, HFF.out.2.1, HFF.out.2.2.1, by omega, hNF, HFF.out.2.2.2.1, HFF.out.2.2.2.2⟩
        case measure => simp [intOf]; omega
     | false =>
      have hbs4 := hbuf4.1
      by_cases hfull : ms.length = N
      ·have hff : ((ms.length : Int) == (N : Int)) = true := by rw [beq_iff_eq]; omega
       -- the box is handed the copy: the error (errV 3), put in: false, sends s, by (fun W v a' q' hQ hv => queuePut_full v p c N vs s r W x.m.kind x.m.micro x.m.body.rows x.m.body.cols a' nX q' hv hQ (by omega)); closed false
       go_wp2_with fail
       try rw [HW4.out]
       refine (boxPut_any p c N vs false s r w4 hq4 (errV 3) false s x.m.kind x.m.micro x.m.body.rows x.m.body.cols aM nX kM bM 0 x.m.body.cells HXN.out iM4 (fun W v a' q' hQ hv => queuePut_full v p c N vs s r W x.m.kind x.m.micro x.m.body.rows x.m.body.cols a' nX q' hv hQ (by omega))).mono ?_
       rintro e w5 ⟨rfl, hf5, a5, q5, b5, hb5, i5, hc5⟩
       have hqb := qb_ne hq4 hrow4
       have hq5 : QAt w5 p c N _ false s r := ⟨hq4.box.farS hf5 (by omega), hc5⟩
       have hrow5 := hrow4.farS hf5 (fun b hb e => (hqb b hb).1 e) (fun b hb e => by omega)
       have hbuf5 := hbuf4.farS hf5 (fun b hb _ e => by omega)
       have hh5 := hh4.farS hf5 (fun e => by omega)
       have B12q := B12'.farS hf5 (by omega)
       have B10q := B10'.farS hf5 (by omega)
       have hz5 := hf5.size
       have hbr5 : Below w.heap.size w w5 := Far.toBelow hbr4 hf5 hbr4.size (fun k e => by omega)
       have hfr5 := hfr4.trans (hf5.wide (fun k _ e => Or.inl e))
       have HBM5 : Hid (0 < nX → aM = some ⟨bM, 0, none⟩ ∧ ∃ cs, Box w5 bM cs 3 ∧ nX ≤ cs.length) := Lib.hid (fun h => by
        obtain ⟨h2, cs, h3, h4⟩ := HBM.out h
        exact ⟨h2, cs, h3.farS hf5 (by have := hbM2 h; omega), h4⟩)
       try have xi5 := xi4.farS hf5 (fun h e => by have := hXF h; omega)
       clear hq4 hrow4 hbuf4 hh4 B12' B10' hbr4 hfr4 hf5 hc5 y0 y1 y2 y3 y4 o1 o2 o3 o4 o5 iM4 HBM
       have y0 := B12q.cell 4
       have yz5 := B12q.lt
       have o1 := B10q.cell 1
       have o2 := B10q.cell 2
       have o3 := B10q.cell 3
       have o4 := B10q.cell 4
       have o5 := B10q.cell 5
       have oz := B10q.lt
       rw [hfull] at hrow5 hbuf5 hqu
       go_wp2_with fail
       have hqS := hq5
       have hrowS := hrow5
       have hbufS := hbuf5.wide (G := fun b => (c + 2 ≤ b ∧ qBlock (Value.slice aU (N) kU) ≠ some b) ∧ (0 < nX → b ≠ bM)) (fun b hb _ => ⟨hb.1, fun h e => by have := hb.2; have := hbM2 h; omega⟩)
       have hmF : ms.length ≤ t + 1 := by omega
       have hNF := hmN
       have hnXb : nX ≤ 9223372036854775807 := by have := HXN.out; omega
       have hhS := hh5
       have hbrS := hbr5
       have hfrS := hfr5
       have HBMS := HBM5
       have hsz2 : p < wr.heap.size + 1 + 1 ∧ c < wr.heap.size + 1 + 1 := by constructor <;> omega
       have hquS : ∀ b, qBlock (Value.slice aU (N) kU) = some b → 0 < nX → b ≠ bM := fun b hb h e => by have := hqu b hb; have := hbM2 h; omega
       clear hq5 hrow5 hbuf5 hh5 hbr5 hfr5 HBM5
       -- what was handed in is the caller's: it is written over, at w5; then the error 3, and the round's end: messages ms, values vs, closed false
       go_loopw [15] (fun i wq => ∃ (j : Nat) (cs : List Value), j ≤ nX ∧ i = .int .i64 j ∧ Far (fun b => 0 < nX ∧ b = bM) w5 wq ∧ (0 < nX → Box wq bM cs 3 ∧ nX ≤ cs.length)) (fun i _ => nX - (intOf i).toNat)
       case atStart =>
        rcases Nat.eq_zero_or_pos nX with h | h
        ·exact ⟨0, [], Nat.zero_le _, rfl, Far.refl _ _, fun hh => by omega⟩
        ·obtain ⟨_, cs, h1, h2⟩ := HBMS.out h
         exact ⟨0, cs, Nat.zero_le _, rfl, Far.refl _ _, fun _ => ⟨h1, h2⟩⟩
       case round =>
        obtain ⟨j, cs, hj, rfl, hfq, hbq⟩ := hrel
        have B12r := B12q.farS hfq (fun e => by have := hbM2 e.1; omega)
        have k4 := B12r.cell 4
        have kz := B12r.lt
        by_cases hjl : j < nX
        ·obtain rfl := (HBMS.out (by omega)).1
         have hji : (j : Int) < (nX : Int) := by omega
         have hj0 : (0 : Int) ≤ (j : Int) := by omega
         obtain ⟨hB, hcl⟩ := hbq (by omega)
         obtain ⟨v, hv⟩ : ∃ v, wr.cell? ⟨bM, j, none⟩ = some v := ⟨cs[j], by rw [hB.cell, List.getElem?_eq_getElem (by omega)]⟩
         have hf := hB.thawed j
         have HR := Lib.hid (And.intro (hfq.st (a := ⟨bM, j, none⟩) (fun _ => ⟨by omega, rfl⟩) (.int .i64 7)) (And.intro (hB.set j (.int .i64 7)) (show nX ≤ (cs.set j (.int .i64 7)).length by simp; omega)))
         clear hfq hbq hB hcl B12r hqS hrowS hbufS hhS hbrS hfrS
         go_wp2
         go_roundw
         case rel => exact ⟨j + 1, cs.set j (.int .i64 7), by omega, by go_num, HR.out.1, fun _ => ⟨HR.out.2.1, HR.out.2.2⟩⟩
         case measure => simp [intOf]; omega
        ·obtain rfl : nX = j := by omega
         have hq6 := qat_far hqS hfq (fun b e => by have := hbM2 e.1; have := e.2; omega) hsz2
         have hrow6 := hrowS.farS hfq (fun b hb e => hquS b hb e.1 e.2) (fun b hb e => by have := hbM2 e.1; have := e.2; omega)
         have hbuf6 := (hbufS.farS hfq (fun b hb _ e => hb.2 e.1 e.2)).wide (fun b hb _ => hb.1)
         have hh6 := hhS.farS hfq (fun e => by have := hbM2 e.1; have := e.2; omega)
         have hbr6 : Below w.heap.size w wr := Far.toBelow hbrS hfq hbrS.size (fun k e => by have := hbM2 e.1; have := e.2; omega)
         have hfr6 := far_beyond hfrS hfq (fun k e => by have := hbM2 e.1; have := e.2; omega)
         clear hqS hrowS hbufS hhS hbrS hfrS hfq hbq B12q
         go_wp2_with fail
         refine (error_any 3 3 _ hh6).mono ?_
         rintro e w7 ⟨rfl, hb7⟩
         rw [decide_eq_true rfl]
         have hqF := hq6.keep hb7
         have hrowF := hrow6.keep hb7
         have hbufF := hbuf6.keep hb7
         have hbrF := hbr6.trans (hb7.mono hbr6.size)
         have hfF := hfr6.trans (Far.of_below hb7)
         clear hq6 hrow6 hbuf6 hbr6 hfr6 hh6 hb7
         go_wp2_with fail
         -- the round's end: facts hqF hrowF hbufF hmF hNF hbrF hfF at the world where Len is called; messages ms, values vs, closed false
         obtain ⟨aF, kF, hvF⟩ := hrowF.slice
         have hbs := hbufF.1
         have HFF := Lib.hid (And.intro hqF (And.intro hrowF (And.intro hbufF (And.intro hbrF hfF))))
         clear hrowF hbufF hbrF hfF
         refine (boxLen_any p c N vs false _ _ _ hqF).mono ?_
         rintro e wL ⟨rfl, rfl⟩
         rw [hbs]
         first
         | subst hvF
         | (simp only [Value.slice.injEq] at hvF; obtain ⟨rfl, rfl, rfl⟩ := hvF)
         | (simp only [Value.slice.injEq] at hvF; obtain ⟨rfl, -, rfl⟩ := hvF)
         have hkk : (((ms).length : Int) != ((ms).length : Int)) = false := by simp
         try simp only [List.length_nil] at hkk ⊢
         clear hbs hqF
         go_wp2
         go_roundw
         case rel => exact ⟨t + 1, ms, vs, false, _, _, by omega, by go_num, rfl, HFF.out.1, HFF.out.2.1, HFF.out.2.2.1, by omega, hNF, HFF.out.2.2.2.1, HFF.out.2.2.2.2⟩
         case measure => simp [intOf]; omega
      ·have hff : ((ms.length : Int) == (N : Int)) = false := by rw [beq_eq_false_iff_ne]; omega
       have hbM4 : 0 < nX → bM < w4.heap.size := fun h => by
        obtain ⟨_, cs, h3, _⟩ := HBM.out h
        exact h3.lt
       obtain ⟨j0, jj0, jj1, jj2, jj3⟩ := info_parts info_msg5
       have xi4 := HXI.out.keep hbw4
       -- the box is handed the copy: the error .nilIface, put in: true, sends (s + 1), by (fun W v a' q' hQ hv => queuePut_room v p c N vs s r W x.m.kind x.m.micro x.m.body.rows x.m.body.cols a' nX q' hv hQ (by omega)); closed false
       go_wp2_with fail
       try rw [HW4.out]
       refine (boxPut_any p c N vs false s r w4 hq4 .nilIface true (s + 1) x.m.kind x.m.micro x.m.body.rows x.m.body.cols aM nX kM bM 0 x.m.body.cells HXN.out iM4 (fun W v a' q' hQ hv => queuePut_room v p c N vs s r W x.m.kind x.m.micro x.m.body.rows x.m.body.cols a' nX q' hv hQ (by omega))).mono ?_
       rintro e w5 ⟨rfl, hf5, a5, q5, b5, hb5, i5, hc5⟩
       have hqb := qb_ne hq4 hrow4
       have hq5 : QAt w5 p c N _ false (s + 1) r := ⟨hq4.box.farS hf5 (by omega), hc5⟩
       have hrow5 := hrow4.farS hf5 (fun b hb e => (hqb b hb).1 e) (fun b hb e => by omega)
       have hbuf5 := hbuf4.farS hf5 (fun b hb _ e => by omega)
       have hh5 := hh4.farS hf5 (fun e => by omega)
       have B12q := B12'.farS hf5 (by omega)
       have B10q := B10'.farS hf5 (by omega)
       have hz5 := hf5.size
       have hbr5 : Below w.heap.size w w5 := Far.toBelow hbr4 hf5 hbr4.size (fun k e => by omega)
       have hfr5 := hfr4.trans (hf5.wide (fun k _ e => Or.inl e))
       have HBM5 : Hid (0 < nX → aM = some ⟨bM, 0, none⟩ ∧ ∃ cs, Box w5 bM cs 3 ∧ nX ≤ cs.length) := Lib.hid (fun h => by
        obtain ⟨h2, cs, h3, h4⟩ := HBM.out h
        exact ⟨h2, cs, h3.farS hf5 (by have := hbM2 h; omega), h4⟩)
       try have xi5 := xi4.farS hf5 (fun h e => by have := hXF h; omega)
       clear hq4 hrow4 hbuf4 hh4 B12' B10' hbr4 hfr4 hf5 hc5 y0 y1 y2 y3 y4 o1 o2 o3 o4 o5 iM4 HBM
       have y0 := B12q.cell 4
       have yz5 := B12q.lt
       have o1 := B10q.cell 1
       have o2 := B10q.cell 2
       have o3 := B10q.cell 3
       have o4 := B10q.cell 4
       have o5 := B10q.cell 5
       have oz := B10q.lt
       go_wp2_with (at_builtin; go_must (refine wpList_qpush rfl (.tmp 73) (.tmp 76) 42 rfl Form.msg c 26 j0 (.agg #[.int .i64 0, .int .i64 0, .int .i64 0, .int .i64 0, .slice none 0 0]) 56 Tryd.underlying42 jj0 jj1 jj2 jj3 rfl (by decide) (.slice aU ms.length kU) ms rfl (hrow5.keep Below.x0) w5.heap.size 1 [.int .i64 x.m.kind, .int .i64 x.m.micro, .int .i64 x.m.body.rows, .int .i64 x.m.body.cols, .slice aX nX kX] 26 x.m rfl (Box.new _ _ _) (reads_msg hXF (xi5.alloc _)) (by omega) (by unfold maxLen; omega) (by simp; omega) ?_))
       intro vG wG hrowG hgrow hvG
       have hal5 : Below w5.heap.size w5 (w5.alloc (.cells #[.int .i64 x.m.kind, .int .i64 x.m.micro, .int .i64 x.m.body.rows, .int .i64 x.m.body.cols, .slice aX nX kX] 26)) := Below.x0
       have hql := fun b hb => (hrow5.lt (b := b) hb)
       have hqq := qb_ne hq5 hrow5
       have hfG : Far (fun b => qBlock (Value.slice aU ms.length kU) = some b) w5 wG := (Far.of_below hal5).grown hgrow (fun k hk _ => hk)
       have hb5z : 0 < nX → bM < b5 ∧ wr.heap.size ≤ b5 := fun h => by have := hb5 h; have := hbM4 h; have := hbM2 h; omega
       have hbufP := (hbuf5.wide (G := fun b => (c + 2 ≤ b ∧ qBlock (Value.slice aU ms.length kU) ≠ some b) ∧ (0 < nX → b ≠ bM) ∧ b < w5.heap.size) (fun b hb hl => ⟨hb.1, fun h e => by have := hb.2; have := hbM2 h; omega, hl⟩)).push (fun h => ⟨⟨by have := hb5z h; omega, fun e => by have := hqu b5 e; have := hb5z h; omega⟩, fun h' e => by have := hb5z h; omega, i5.lt h⟩) i5
       have hqS := (⟨hq5.box.farS hfG (fun e => (hqq p e).2 rfl), (hfG.block c (heap_lt hq5.ch) (fun e => (hqq c e).1 rfl)).trans hq5.ch⟩ : QAt wG p c N (vs.push (.agg #[.int .i64 x.m.kind, .int .i64 x.m.micro, .int .i64 x.m.body.rows, .int .i64 x.m.body.cols, .slice a5 nX q5])) false (s + 1) r)
       have hbufS := (hbufP.farS hfG (fun b hb _ e => hb.1.2 e)).wide (G := fun b => (c + 2 ≤ b ∧ qBlock vG ≠ some b) ∧ (0 < nX → b ≠ bM)) (fun b hb _ => ⟨⟨hb.1.1, fun e => by rcases hvG b e with h | h; exact hb.1.2 h; have := hb.2.2; omega⟩, hb.2.1⟩)
       have hhS := hh5.farS hfG (fun e => by have := hql _ e; omega)
       have hbrS : Below w.heap.size w wG := Far.toBelow hbr5 hfG hbr5.size (fun k e => by have := hql k e; omega)
       have hfrS := far_beyond hfr5 hfG (fun k e => by have := hql k e; have := hqq k e; omega)
       have B12s := B12q.farS hfG (fun e => by have := hqu _ e; omega)
       have HBMS : Hid (0 < nX → aM = some ⟨bM, 0, none⟩ ∧ ∃ cs, Box wG bM cs 3 ∧ nX ≤ cs.length) := Lib.hid (fun h => by
        obtain ⟨h2, cs, h3, h4⟩ := HBM5.out h
        exact ⟨h2, cs, h3.farS hfG (fun e => by have := hqu _ e; have := hbM2 h; omega), h4⟩)
       have hrowS := hrowG
       have hquS : ∀ b, qBlock vG = some b → 0 < nX → b ≠ bM := fun b hb h e => by
        rcases hvG b hb with h' | h'
        ·have := hqu b h'; have := hbM2 h; omega
        ·have := hbM4 h; omega
       have B12q := B12s
       have hmF : (ms ++ [x.m]).length ≤ t + 1 := by rw [List.length_append, List.length_singleton]; omega
       have hNF : (ms ++ [x.m]).length ≤ N := by rw [List.length_append, List.length_singleton]; omega
       have hnXb : nX ≤ 9223372036854775807 := by have := HXN.out; omega
       have hsz2 : p < wr.heap.size + 1 + 1 ∧ c < wr.heap.size + 1 + 1 := by constructor <;> omega
       have k4 := B12s.cell 4
       have kz := B12s.lt
       clear hrow5 hbuf5 hbufP hq5 hh5 hbr5 hfr5 B10q HBM5 hfG hal5 hrowG hgrow hvG hql hqq hqu hff i5 xi5 xi4 hbs4 y0 o1 o2 o3 o4 o5 B12s
       go_wp2_with fail
       -- what was handed in is the caller's: it is written over, at wG; then the error 0, and the round's end: messages (ms ++ [x.m]), values (vs.push (.agg #[.int .i64 x.m.kind, .int .i64 x.m.micro, .int .i64 x.m.body.rows, .int .i64 x.m.body.cols, .slice a5 nX q5])), closed false
       go_loopw [15] (fun i wq => ∃ (j : Nat) (cs : List Value), j ≤ nX ∧ i = .int .i64 j ∧ Far (fun b => 0 < nX ∧ b = bM) wG wq ∧ (0 < nX → Box wq bM cs 3 ∧ nX ≤ cs.length)) (fun i _ => nX - (intOf i).toNat)
       case atStart =>
        rcases Nat.eq_zero_or_pos nX with h | h
        ·exact ⟨0, [], Nat.zero_le _, rfl, Far.refl _ _, fun hh => by omega⟩
        ·obtain ⟨_, cs, h1, h2⟩ := HBMS.out h
         exact ⟨0, cs, Nat.zero_le _, rfl, Far.refl _ _, fun _ => ⟨h1, h2⟩⟩
       case round =>
        obtain ⟨j, cs, hj, rfl, hfq, hbq⟩ := hrel
        have B12r := B12q.farS hfq (fun e => by have := hbM2 e.1; omega)
        have k4 := B12r.cell 4
        have kz := B12r.lt
        by_cases hjl : j < nX
        ·obtain rfl := (HBMS.out (by omega)).1
         have hji : (j : Int) < (nX : Int) := by omega
         have hj0 : (0 : Int) ≤ (j : Int) := by omega
         obtain ⟨hB, hcl⟩ := hbq (by omega)
         obtain ⟨v, hv⟩ : ∃ v, wr.cell? ⟨bM, j, none⟩ = some v := ⟨cs[j], by rw [hB.cell, List.getElem?_eq_getElem (by omega)]⟩
         have hf := hB.thawed j
         have HR := Lib.hid (And.intro (hfq.st (a := ⟨bM, j, none⟩) (fun _ => ⟨by omega, rfl⟩) (.int .i64 7)) (And.intro (hB.set j (.int .i64 7)) (show nX ≤ (cs.set j (.int .i64 7)).length by simp; omega)))
         clear hfq hbq hB hcl B12r hqS hrowS hbufS hhS hbrS hfrS
         go_wp2
         go_roundw
         case rel => exact ⟨j + 1, cs.set j (.int .i64 7), by omega, by go_num, HR.out.1, fun _ => ⟨HR.out.2.1, HR.out.2.2⟩⟩
         case measure => simp [intOf]; omega
        ·obtain rfl : nX = j := by omega
         have hq6 := qat_far hqS hfq (fun b e => by have := hbM2 e.1; have := e.2; omega) hsz2
         have hrow6 := hrowS.farS hfq (fun b hb e => hquS b hb e.1 e.2) (fun b hb e => by have := hbM2 e.1; have := e.2; omega)
         have hbuf6 := (hbufS.farS hfq (fun b hb _ e => hb.2 e.1 e.2)).wide (fun b hb _ => hb.1)
         have hh6 := hhS.farS hfq (fun e => by have := hbM2 e.1; have := e.2; omega)
         have hbr6 : Below w.heap.size w wr := Far.toBelow hbrS hfq hbrS.size (fun k e => by have := hbM2 e.1; have := e.2; omega)
         have hfr6 := far_beyond hfrS hfq (fun k e => by have := hbM2 e.1; have := e.2; omega)
         clear hqS hrowS hbufS hhS hbrS hfrS hfq hbq B12q
         go_wp2_with fail
         refine (error_any 0 0 _ hh6).mono ?_
         rintro e w7 ⟨rfl, hb7⟩
         rw [decide_eq_true rfl]
         have hqF := hq6.keep hb7
         have hrowF := hrow6.keep hb7
         have hbufF := hbuf6.keep hb7
         have hbrF := hbr6.trans (hb7.mono hbr6.size)
         have hfF := hfr6.trans (Far.of_below hb7)
         clear hq6 hrow6 hbuf6 hbr6 hfr6 hh6 hb7
         go_wp2_with fail
         -- the round's end: facts hqF hrowF hbufF hmF hNF hbrF hfF at the world where Len is called; messages (ms ++ [x.m]), values (vs.push (.agg #[.int .i64 x.m.kind, .int .i64 x.m.micro, .int .i64 x.m.body.rows, .int .i64 x.m.body.cols, .slice a5 nX q5])), closed false
         obtain ⟨aF, kF, hvF⟩ := hrowF.slice
         have hbs := hbufF.1
         have HFF := Lib.hid (And.intro hqF (And.intro hrowF (And.intro hbufF (And.intro hbrF hfF))))
         clear hrowF hbufF hbrF hfF
         refine (boxLen_any p c N (vs.push (.agg #[.int .i64 x.m.kind, .int .i64 x.m.micro, .int .i64 x.m.body.rows, .int .i64 x.m.body.cols, .slice a5 nX q5])) false _ _ _ hqF).mono ?_
         rintro e wL ⟨rfl, rfl⟩
         rw [hbs]
         first
         | subst hvF
         | (simp only [Value.slice.injEq] at hvF; obtain ⟨rfl, rfl, rfl⟩ := hvF)
         | (simp only [Value.slice.injEq] at hvF; obtain ⟨rfl, -, rfl⟩ := hvF)
         have hkk : ((((ms ++ [x.m])).length : Int) != (((ms ++ [x.m])).length : Int)) = false := by simp
         try simp only [List.length_nil] at hkk ⊢
         clear hbs hqF
         go_wp2
         go_roundw
         case rel => exact ⟨t + 1, (ms ++ [x.m]), (vs.push (.agg #[.int .i64 x.m.kind, .int .i64 x.m.micro, .int .i64 x.m.body.rows, .int .i64 x.m.body.cols, .slice a5 nX q5])), false, _, _, by omega, by go_num, rfl, HFF.out.1, HFF.out.2.1, HFF.out.2.2.1, by omega, hNF, HFF.out.2.2.2.1, HFF.out.2.2.2.2⟩
         case measure => simp [intOf]; omega
    ·by_cases hk2 : x.kind = 2
     ·rw [hk2] at x0
      clear hk1 hk2
      have hal : Below wr.heap.size wr (wr.alloc (.cells #[.int .i64 2, .int .i64 x.m.kind, .int .i64 x.m.micro, .int .i64 x.m.body.rows, .int .i64 x.m.body.cols, .slice aX nX kX] 44)) := Below.x0
      replace hq := hq.keep hal
      replace hrow := hrow.keep hal
      replace hbuf := hbuf.keep hal
      replace hh := hh.keep hal
      replace hbr := hbr.trans (hal.mono hbr.size)
      replace hfr := hfr.trans (Far.of_below hal)
      clear hal
      cases ms with
      | cons m0 ms =>
       obtain ⟨hbs, hbe⟩ := hbuf
       obtain ⟨aV, nV, kV, bV, hv0, hvF, hvi⟩ := hbe 0 m0 rfl
       have hbuf : BufAt _ _ vs (m0 :: ms) := ⟨hbs, hbe⟩
       have hvs : 0 < vs.size := by rw [hbs]; simp
       have hvg : vs.getD 0 undef = .agg #[.int .i64 m0.kind, .int .i64 m0.micro, .int .i64 m0.body.rows, .int .i64 m0.body.cols, .slice aV nV kV] := by
        rw [Array.getD_eq_getD_getElem?, hv0]; rfl
       have HTK := Lib.hid (fun W hQ => queueTake_some p c N vs cl s r W m0.kind m0.micro m0.body.rows m0.body.cols aV nV kV hQ hvs hvg)
       clear hbe hv0 hvg
       go_wp2_with fail
       refine (boxTake_any p c N vs cl s r _ hq _ .nilIface (vs.extract 1 vs.size) (r + 1) m0.kind m0.micro m0.body.rows m0.body.cols aV nV kV rfl HTK.out).mono ?_
       rintro e w2 ⟨rfl, hf2, hc2⟩
       have hqb := qb_ne hq hrow
       have hq2 : QAt w2 p c N (vs.extract 1 vs.size) cl s (r + 1) := ⟨hq.box.farS hf2 (by omega), hc2⟩
       have hrow2 := hrow.farS hf2 (fun b hb e => (hqb b hb).1 e) (fun b hb e => by omega)
       have hbuf2 := hbuf.tail.farS hf2 (fun b hb _ e => by omega)
       have hvi2 := hvi.farS hf2 (fun h e => by have := (hvF h).1; omega)
       have hh2 := hh.farS hf2 (fun e => by omega)
       have hbr2 : Below w.heap.size w w2 := Far.toBelow hbr hf2 hbr.size (fun k e => by omega)
       have hfr2 := hfr.trans (hf2.wide (fun k _ e => Or.inl e))
       have hz2 := hf2.size
       clear hq hrow hbuf hvi hh hbr hfr hf2 hc2 HTK
       obtain ⟨aR, kR, bR, oR, hu, hRow⟩ := hrow2.row (G := anyB) (fun _ _ _ => trivial) (fun _ _ => trivial)
       subst hu
       obtain rfl := hRow.ptr (by simp)
       obtain ⟨cs0, hr0, hcl0⟩ := hRow.cell 0 m0 rfl
       obtain ⟨aW, nW, kW, bW, oW, rfl, _, wi⟩ := msg_reads hr0
       have hs5 : Form.msg.size = 5 := rfl
       rw [hs5] at hcl0
       have z0 := hcl0 0 (by omega)
       have z1 := hcl0 1 (by omega)
       have z2 := hcl0 2 (by omega)
       have z3 := hcl0 3 (by omega)
       have z4 := hcl0 4 (by omega)
       simp only [Nat.zero_mul, Nat.add_zero] at z0 z1 z2 z3 z4
       obtain ⟨A, hA⟩ : ∃ A : Option Addr, (if kR = 1 then some ⟨bR, oR, none⟩ else some ⟨bR, oR + 5, none⟩) = A := ⟨_, rfl⟩
       have htl := hrow2.tail (a := none) hs5
       rw [hA] at htl
       have hlen0 : (0 : Int) < ((m0 :: ms).length : Int) := by rw [List.length_cons]; omega
       obtain ⟨M, hM⟩ : ∃ M, ms.length = M := ⟨_, rfl⟩
       have hK : (m0 :: ms).length = M + 1 := by rw [List.length_cons, hM]
       rw [hK] at htl hlen0 ⊢
       rw [Nat.add_sub_cancel] at htl
       have hKk : M + 1 ≤ kR := by have := hRow.le; omega
       have hMt : M ≤ t + 1 ∧ M ≤ N := by constructor <;> omega
       have hmt' := hmt
       clear hK
       have zR : bR < w2.heap.size := hRow.lt (by omega)
       have zRk : bR < w2.heap.size + 1 := by omega
       clear hRow hcl0 hr0 hrow2
       have hal3 : Below w2.heap.size w2 ((w2.alloc (.cells #[.int .i64 m0.kind, .int .i64 m0.micro, .int .i64 m0.body.rows, .int .i64 m0.body.cols, .slice aV nV kV] 26)).alloc (.cells #[.int .i64 m0.kind, .int .i64 m0.micro, .int .i64 m0.body.rows, .int .i64 m0.body.cols, .slice aW nW kW] 26)) := Below.x0
       have htl2 : QRow Form.msg 26 w2 c (fun b => b < c) (.slice A M (kR - 1)) ms := htl
       have hqb2 := qb_ne hq2 htl2
       have hz19 : ∃ y, (w2.alloc (.cells #[.int .i64 m0.kind, .int .i64 m0.micro, .int .i64 m0.body.rows, .int .i64 m0.body.cols, .slice aV nV kV] 26)).alloc (.cells #[.int .i64 m0.kind, .int .i64 m0.micro, .int .i64 m0.body.rows, .int .i64 m0.body.cols, .slice aW nW kW] 26) = y := ⟨_, rfl⟩
       go_wp2_with fail
       refine (messages_same m0 _ _ _ ⟨aV, nV, kV, bV, 0, rfl, hvi2.keep hal3⟩ ⟨aW, nW, kW, bW, oW, rfl, wi.keep hal3⟩).mono ?_
       rintro e w4 ⟨rfl, hb4⟩
       have hb24 : Below w2.heap.size w2 w4 := hal3.trans (hb4.mono hal3.size)
       go_wp2_with fail
       refine (error_any 0 0 _ (hh2.keep hb24)).mono ?_
       rintro e w5 ⟨rfl, hb5⟩
       rw [decide_eq_true rfl]
       have hb25 : Below w2.heap.size w2 w5 := hb24.trans (hb5.mono hb24.size)
       have hqF := hq2.keep hb25
       have hrowF := htl2.keep hb25
       have hbufF := (hbuf2.keep hb25).wide (G := fun b => c + 2 ≤ b ∧ qBlock (.slice A M (kR - 1)) ≠ some b) (fun b hb _ => ⟨hb.1, fun e => hb.2 (by rw [← hA] at e; exact qBlock_tail e)⟩)
       have hmF : ms.length ≤ t + 1 := by omega
       have hNF : ms.length ≤ N := by omega
       have hbrF := hbr2.trans (hb25.mono hbr2.size)
       have hfF := hfr2.trans (Far.of_below hb25)
       clear hq2 htl2 htl hbuf2 hmt hmN hmt' hbr2 hfr2 hb25 hb24 hb4 hb5 hal3 hvi2 wi hh2 z0 z1 z2 z3 z4
       go_wp2_with fail
       -- the round's end: facts hqF hrowF hbufF hmF hNF hbrF hfF at the world where Len is called; messages ms, values (vs.extract 1 vs.size), closed cl
       obtain ⟨aF, kF, hvF⟩ := hrowF.slice
       have hbs := hbufF.1
       have HFF := Lib.hid (And.intro hqF (And.intro hrowF (And.intro hbufF (And.intro hbrF hfF))))
       clear hrowF hbufF hbrF hfF
       refine (boxLen_any p c N (vs.extract 1 vs.size) cl _ _ _ hqF).mono ?_
       rintro e wL ⟨rfl, rfl⟩
       rw [hbs]
       first
       | subst hvF
       | (simp only [Value.slice.injEq] at hvF; obtain ⟨rfl, rfl, rfl⟩ := hvF)
       | (simp only [Value.slice.injEq] at hvF; obtain ⟨rfl, -, rfl⟩ := hvF)
       have hkk : (((ms).length : Int) != ((ms).length : Int)) = false := by simp
       try simp only [List.length_nil] at hkk ⊢
       clear hbs hqF
       go_wp2
       go_roundw
       case rel => exact ⟨t + 1, ms, (vs.extract 1 vs.size), cl, _, _, by omega, by go_num, rfl, HFF.out.1, HFF.out.2.1, HFF.out.2.2.1, by omega, hNF, HFF.out.2.2.2.1, HFF.out.2.2.2.2⟩
       case measure => simp [intOf]; omega
      | nil =>
       obtain rfl : vs = #[] := Array.eq_empty_of_size_eq_zero hbuf.1
       cases cl with
       | true =>
        -- nothing is in the box: the error is 5, by queueTake_shut; closed true
        go_wp2_with fail
        refine (boxTake_any p c N #[] true s r _ hq _ (errV 5) #[] r 0 0 0 0 none 0 0 rfl (fun W hQ => queueTake_shut p c N s r W hQ)).mono ?_
        rintro e w2 ⟨rfl, hf2, hc2⟩
        have hqb := qb_ne hq hrow
        have hq2 : QAt w2 p c N #[] true s r := ⟨hq.box.farS hf2 (by omega), hc2⟩
        have hrow2 := hrow.farS hf2 (fun b hb e => (hqb b hb).1 e) (fun b hb e => by omega)
        have hbuf2 := hbuf.farS hf2 (fun b hb _ e => by omega)
        have hh2 := hh.farS hf2 (fun e => by omega)
        have hbr2 : Below w.heap.size w w2 := Far.toBelow hbr hf2 hbr.size (fun k e => by omega)
        have hfr2 := hfr.trans (hf2.wide (fun k _ e => Or.inl e))
        clear hq hrow hbuf hh hbr hfr hf2 hc2
        obtain ⟨aR, kR, hu⟩ := hrow2.slice
        subst hu
        have hal3 : Below w2.heap.size w2 ((w2.alloc (.cells #[.int .i64 0, .int .i64 0, .int .i64 0, .int .i64 0, .slice none 0 0] 26)).alloc (.cells #[.int .i64 0, .int .i64 0, .int .i64 0, .int .i64 0, .slice none 0 0] 26)) := Below.x0
        go_wp2_with fail
        refine (messages_same ⟨0, 0, ⟨0, 0, []⟩⟩ _ _ _ ⟨none, 0, 0, 0, 0, rfl, nilInts _⟩ ⟨none, 0, 0, 0, 0, rfl, nilInts _⟩).mono ?_
        rintro e w4 ⟨rfl, hb4⟩
        have hb24 : Below w2.heap.size w2 w4 := hal3.trans (hb4.mono hal3.size)
        go_wp2_with fail
        refine (error_any 5 5 _ (hh2.keep hb24)).mono ?_
        rintro e w5 ⟨rfl, hb5⟩
        rw [decide_eq_true rfl]
        have hb25 : Below w2.heap.size w2 w5 := hb24.trans (hb5.mono hb24.size)
        have hqF := hq2.keep hb25
        have hrowF := hrow2.keep hb25
        have hbufF := hbuf2.keep hb25
        have hmF : ([] : List MsgD).length ≤ t + 1 := Nat.zero_le _
        have hNF : ([] : List MsgD).length ≤ N := Nat.zero_le _
        have hbrF := hbr2.trans (hb25.mono hbr2.size)
        have hfF := hfr2.trans (Far.of_below hb25)
        clear hq2 hrow2 hbuf2 hmt hmN hbr2 hfr2 hb25 hb24 hb4 hb5 hal3 hh2
        go_wp2_with fail
        -- the round's end: facts hqF hrowF hbufF hmF hNF hbrF hfF at the world where Len is called; messages ([] : List MsgD), values #[], closed true
        obtain ⟨aF, kF, hvF⟩ := hrowF.slice
        have hbs := hbufF.1
        have HFF := Lib.hid (And.intro hqF (And.intro hrowF (And.intro hbufF (And.intro hbrF hfF))))
        clear hrowF hbufF hbrF hfF
        refine (boxLen_any p c N #[] true _ _ _ hqF).mono ?_
        rintro e wL ⟨rfl, rfl⟩
        rw [hbs]
        first
        | subst hvF
        | (simp only [Value.slice.injEq] at hvF; obtain ⟨rfl, rfl, rfl⟩ := hvF)
        | (simp only [Value.slice.injEq] at hvF; obtain ⟨rfl, -, rfl⟩ := hvF)
        have hkk : (((([] : List MsgD)).length : Int) != ((([] : List MsgD)).length : Int)) = false := by simp
        try simp only [List.length_nil] at hkk ⊢
        clear hbs hqF
        go_wp2
        go_roundw
        case rel => exact ⟨t + 1, ([] : List MsgD), #[], true, _, _, by omega, by go_num, rfl, HFF.out.1, HFF.out.2.1, HFF.out.2.2.1, by omega, hNF, HFF.out.2.2.2.1, HFF.out.2.2.2.2⟩
        case measure => simp [intOf]; omega
       | false =>
        -- nothing is in the box: the error is 4, by queueTake_none; closed false
        go_wp2_with fail
        refine (boxTake_any p c N #[] false s r _ hq _ (errV 4) #[] r 0 0 0 0 none 0 0 rfl (fun W hQ => queueTake_none p c N s r W hQ)).mono ?_
        rintro e w2 ⟨rfl, hf2, hc2⟩
        have hqb := qb_ne hq hrow
        have hq2 : QAt w2 p c N #[] false s r := ⟨hq.box.farS hf2 (by omega), hc2⟩
        have hrow2 := hrow.farS hf2 (fun b hb e => (hqb b hb).1 e) (fun b hb e => by omega)
        have hbuf2 := hbuf.farS hf2 (fun b hb _ e => by omega)
        have hh2 := hh.farS hf2 (fun e => by omega)
        have hbr2 : Below w.heap.size w w2 := Far.toBelow hbr hf2 hbr.size (fun k e => by omega)
        have hfr2 := hfr.trans (hf2.wide (fun k _ e => Or.inl e))
        clear hq hrow hbuf hh hbr hfr hf2 hc2
        obtain ⟨aR, kR, hu⟩ := hrow2.slice
        subst hu
        have hal3 : Below w2.heap.size w2 ((w2.alloc (.cells #[.int .i64 0, .int .i64 0, .int .i64 0, .int .i64 0, .slice none 0 0] 26)).alloc (.cells #[.int .i64 0, .int .i64 0, .int .i64 0, .int .i64 0, .slice none 0 0] 26)) := Below.x0
        go_wp2_with fail
        refine (messages_same ⟨0, 0, ⟨0, 0, []⟩⟩ _ _ _ ⟨none, 0, 0, 0, 0, rfl, nilInts _⟩ ⟨none, 0, 0, 0, 0, rfl, nilInts _⟩).mono ?_
        rintro e w4 ⟨rfl, hb4⟩
        have hb24 : Below w2.heap.size w2 w4 := hal3.trans (hb4.mono hal3.size)
        go_wp2_with fail
        refine (error_any 4 4 _ (hh2.keep hb24)).mono ?_
        rintro e w5 ⟨rfl, hb5⟩
        rw [decide_eq_true rfl]
        have hb25 : Below w2.heap.size w2 w5 := hb24.trans (hb5.mono hb24.size)
        have hqF := hq2.keep hb25
        have hrowF := hrow2.keep hb25
        have hbufF := hbuf2.keep hb25
        have hmF : ([] : List MsgD).length ≤ t + 1 := Nat.zero_le _
        have hNF : ([] : List MsgD).length ≤ N := Nat.zero_le _
        have hbrF := hbr2.trans (hb25.mono hbr2.size)
        have hfF := hfr2.trans (Far.of_below hb25)
        clear hq2 hrow2 hbuf2 hmt hmN hbr2 hfr2 hb25 hb24 hb4 hb5 hal3 hh2
        go_wp2_with fail
        -- the round's end: facts hqF hrowF hbufF hmF hNF hbrF hfF at the world where Len is called; messages ([] : List MsgD), values #[], closed false
        obtain ⟨aF, kF, hvF⟩ := hrowF.slice
        have hbs := hbufF.1
        have HFF := Lib.hid (And.intro hqF (And.intro hrowF (And.intro hbufF (And.intro hbrF hfF))))
        clear hrowF hbufF hbrF hfF
        refine (boxLen_any p c N #[] false _ _ _ hqF).mono ?_
        rintro e wL ⟨rfl, rfl⟩
        rw [hbs]
        first
        | subst hvF
        | (simp only [Value.slice.injEq] at hvF; obtain ⟨rfl, rfl, rfl⟩ := hvF)
        | (simp only [Value.slice.injEq] at hvF; obtain ⟨rfl, -, rfl⟩ := hvF)
        have hkk : (((([] : List MsgD)).length : Int) != ((([] : List MsgD)).length : Int)) = false := by simp
        try simp only [List.length_nil] at hkk ⊢
        clear hbs hqF
        go_wp2
        go_roundw
        case rel => exact ⟨t + 1, ([] : List MsgD), #[], false, _, _, by omega, by go_num, rfl, HFF.out.1, HFF.out.2.1, HFF.out.2.2.1, by omega, hNF, HFF.out.2.2.2.1, HFF.out.2.2.2.2⟩
        case measure => simp [intOf]; omega
     ·by_cases hk3 : x.kind = 3
      ·rw [hk3] at x0
       clear hk1 hk2 hk3
       have hal : Below wr.heap.size wr (wr.alloc (.cells #[.int .i64 3, .int .i64 x.m.kind, .int .i64 x.m.micro, .int .i64 x.m.body.rows, .int .i64 x.m.body.cols, .slice aX nX kX] 44)) := Below.x0
       replace hq := hq.keep hal
       replace hrow := hrow.keep hal
       replace hbuf := hbuf.keep hal
       have hmF : ms.length ≤ t + 1 := by omega
       have hNF := hmN
       replace hbr := hbr.trans (hal.mono hbr.size)
       replace hfr := hfr.trans (Far.of_below hal)
       clear hmt hmN hal
       cases cl with
       | true =>
        go_wp2_with fail
        refine (boxClose_shut p c N vs s r _ hq).mono ?_
        rintro e w2 ⟨rfl, rfl⟩
        go_wp2_with fail
        have hqF := hq
        have hrowF := hrow
        have hbufF := hbuf
        have hbrF := hbr
        have hfF := hfr
        clear hq hrow hbuf hbr hfr
        -- the round's end: facts hqF hrowF hbufF hmF hNF hbrF hfF at the world where Len is called; messages ms, values vs, closed true
        obtain ⟨aF, kF, hvF⟩ := hrowF.slice
        have hbs := hbufF.1
        have HFF := Lib.hid (And.intro hqF (And.intro hrowF (And.intro hbufF (And.intro hbrF hfF))))
        clear hrowF hbufF hbrF hfF
        refine (boxLen_any p c N vs true _ _ _ hqF).mono ?_
        rintro e wL ⟨rfl, rfl⟩
        rw [hbs]
        first
        | subst hvF
        | (simp only [Value.slice.injEq] at hvF; obtain ⟨rfl, rfl, rfl⟩ := hvF)
        | (simp only [Value.slice.injEq] at hvF; obtain ⟨rfl, -, rfl⟩ := hvF)
        have hkk : (((ms).length : Int) != ((ms).length : Int)) = false := by simp
        try simp only [List.length_nil] at hkk ⊢
        clear hbs hqF
        go_wp2
        go_roundw
        case rel => exact ⟨t + 1, ms, vs, true, _, _, by omega, by go_num, rfl, HFF.out.1, HFF.out.2.1, HFF.out.2.2.1, by omega, hNF, HFF.out.2.2.2.1, HFF.out.2.2.2.2⟩
        case measure => simp [intOf]; omega
       | false =>
        go_wp2_with fail
        refine (boxClose_open p c N vs s r _ hq).mono ?_
        rintro e w2 ⟨rfl, hf2, hqF⟩
        have hrowF := hrow.farS hf2 (fun b hb => by have := qb_ne hq hrow b hb; rintro (e | e) <;> omega) (fun b hb => by rintro (e | e) <;> omega)
        have hbufF := hbuf.farS hf2 (fun b hb _ => by rintro (e | e) <;> omega)
        have hbrF : Below w.heap.size w w2 := Far.toBelow hbr hf2 hbr.size (fun k e => by rcases e with e | e <;> omega)
        have hfF := hfr.trans (hf2.wide (fun k _ e => e))
        clear hq hrow hbuf hbr hfr hf2
        go_wp2_with fail
        -- the round's end: facts hqF hrowF hbufF hmF hNF hbrF hfF at the world where Len is called; messages ms, values vs, closed true
        obtain ⟨aF, kF, hvF⟩ := hrowF.slice
        have hbs := hbufF.1
        have HFF := Lib.hid (And.intro hqF (And.intro hrowF (And.intro hbufF (And.intro hbrF hfF))))
        clear hrowF hbufF hbrF hfF
        refine (boxLen_any p c N vs true _ _ _ hqF).mono ?_
        rintro e wL ⟨rfl, rfl⟩
        rw [hbs]
        first
        | subst hvF
        | (simp only [Value.slice.injEq] at hvF; obtain ⟨rfl, rfl, rfl⟩ := hvF)
        | (simp only [Value.slice.injEq] at hvF; obtain ⟨rfl, -, rfl⟩ := hvF)
        have hkk : (((ms).length : Int) != ((ms).length : Int)) = false := by simp
        try simp only [List.length_nil] at hkk ⊢
        clear hbs hqF
        go_wp2
        go_roundw
        case rel => exact ⟨t + 1, ms, vs, true, _, _, by omega, by go_num, rfl, HFF.out.1, HFF.out.2.1, HFF.out.2.2.1, by omega, hNF, HFF.out.2.2.2.1, HFF.out.2.2.2.2⟩
        case measure => simp [intOf]; omega
      ·have q1 : (x.kind == 1) = false := by rw [beq_eq_false_iff_ne]; exact hk1
       have q2 : (x.kind == 2) = false := by rw [beq_eq_false_iff_ne]; exact hk2
       have q3 : (x.kind == 3) = false := by rw [beq_eq_false_iff_ne]; exact hk3
       have hal : Below wr.heap.size wr (wr.alloc (.cells #[.int .i64 x.kind, .int .i64 x.m.kind, .int .i64 x.m.micro, .int .i64 x.m.body.rows, .int .i64 x.m.body.cols, .slice aX nX kX] 44)) := Below.x0
       have hqF := hq.keep hal
       have hrowF := hrow.keep hal
       have hbufF := hbuf.keep hal
       have hmF : ms.length ≤ t + 1 := by omega
       have hNF := hmN
       have hbrF := hbr.trans (hal.mono hbr.size)
       have hfF := hfr.trans (Far.of_below hal)
       clear hq hrow hbuf hmt hmN hbr hfr hal
       go_wp2_with fail
       -- the round's end: facts hqF hrowF hbufF hmF hNF hbrF hfF at the world where Len is called; messages ms, values vs, closed cl
       obtain ⟨aF, kF, hvF⟩ := hrowF.slice
       have hbs := hbufF.1
       have HFF := Lib.hid (And.intro hqF (And.intro hrowF (And.intro hbufF (And.intro hbrF hfF))))
       clear hrowF hbufF hbrF hfF
       refine (boxLen_any p c N vs cl _ _ _ hqF).mono ?_
       rintro e wL ⟨rfl, rfl⟩
       rw [hbs]
       first
       | subst hvF
       | (simp only [Value.slice.injEq] at hvF; obtain ⟨rfl, rfl, rfl⟩ := hvF)
       | (simp only [Value.slice.injEq] at hvF; obtain ⟨rfl, -, rfl⟩ := hvF)
       have hkk : (((ms).length : Int) != ((ms).length : Int)) = false := by simp
       try simp only [List.length_nil] at hkk ⊢
       clear hbs hqF
       go_wp2
       go_roundw
       case rel => exact ⟨t + 1, ms, vs, cl, _, _, by omega, by go_num, rfl, HFF.out.1, HFF.out.2.1, HFF.out.2.2.1, by omega, hNF, HFF.out.2.2.2.1, HFF.out.2.2.2.2⟩
       case measure => simp [intOf]; omega
   ·obtain rfl : t = L := by omega
    go_wp2
    go_ret
    exact ⟨rfl, hbr⟩
theorem own : ownKnob Tryd.prog.godebug = none := by kernel_rfl
theorem laidOut : laidOutB Tryd.prog = true := by kernel_rfl
theorem et : Tryd.prog.globalNamed "errors.errorType" = some 1 := by kernel_rfl
theorem rt : (Tryd.prog.cutTypes.find? (·.1 == "internal/reflectlite.rtype")).map (·.2) = some 147 := by kernel_rfl
theorem oneRow : ((List.range 205).filter fun t => Tryd.prog.rowNamed t [101, 114, 114, 111, 114]) = [29] := by kernel_rfl
theorem tsize : Tryd.prog.types.size = 205 := by kernel_rfl
theorem handle_of_laid {W : World} (h : laidMetH Tryd.prog Rows.mailPlaysRow.laid W) : Handle W := by
 have h' : laidMet Tryd.prog [] W ∧ handlesMet Tryd.prog Rows.mailPlaysRow.laid W := h
 obtain ⟨name, u, ty, e1, e2, e3, e4, e5⟩ := h'.2 _ (List.mem_singleton.2 rfl)
 have en : name = [101, 114, 114, 111, 114] := (Option.some.inj e1).symm
 subst en
 obtain rfl := Option.some.inj (rt.symm.trans e2)
 have hm : ty ∈ (List.range 205).filter fun t => Tryd.prog.rowNamed t [101, 114, 114, 111, 114] := List.mem_filter.2 ⟨List.mem_range.2 (by rw [← tsize]; exact e3), e4⟩
 rw [oneRow] at hm
 obtain rfl := List.mem_singleton.1 hm
 have hh : typeHandle Tryd.prog 29 = .pointer (some ⟨2, 29, none⟩) := by kernel_rfl
 rw [hh] at e5
 simpa [Handle, handleV] using World.var?_cell et e5 0
noncomputable def laidWorld (os : Os) : World :=
 { World.holding Tryd.prog os ⟨#[], #[], []⟩ with heap := (World.holding Tryd.prog os ⟨#[], #[], []⟩).heap.modify 1 fun
   | .cells _ t frozen => .cells #[.iface 147 (.agg #[.pointer (some ⟨2, 29, none⟩)])] t frozen
   | o => o }
theorem laid_met (os : Os) : laidMetH Tryd.prog Rows.mailPlaysRow.laid ((laidWorld os).forCall (fun _ _ => 0) ⟨#[], #[.int .i64 0, .slice none 0 0], []⟩).memory :=
 laidMetH_of_parts (laidMet_nil _ _) (by kernel_rfl)
theorem reads (os : Os) {H : Type} (enc : TypeId × Value → H) : ∃ places, DataW.whole enc Tryd.prog ((laidWorld os).forCall (fun _ _ => 0) ⟨#[], #[.int .i64 0, .slice none 0 0], []⟩).memory Tryd.f4.params.toList Rows.mailPlaysSpec.vars false (#[.int .i64 0, .slice none 0 0] : Array Value).toList 8 = some ([.lit (.int .i64 0), .nil], [], places) :=
 ⟨[], by kernel_rfl⟩
set_option maxRecDepth 100000 in
set_option maxHeartbeats 1000000 in
theorem contract (H : Type) (enc : TypeId × Value → H) (W : World) (base : Nat) (args : Array Value) (ds gs : List (DataW H)) (before : List MemPlace)
  (hval0 : ∀ (j : Nat) t v, Tryd.f4.params[j]? = some t → args[j]? = some v → Value.okWide Tryd.prog W .any base t v)
  (hW : DataW.Whole enc Tryd.prog Tryd.f4.params.toList Rows.mailPlaysSpec.vars false W args.toList ds gs before) (hh : Handle W) (hs0 : (DataW.weightsEach Tryd.prog (Tryd.f4.params.toList ++ (OpenSpec.ofChange Rows.mailPlaysSpec).bare.plain.varTypes Tryd.prog) (ds ++ gs)).all (· ≤ reachBytes) = true) :
  Calls Tryd.prog 4 args W fun e W' => ∃ v, e = .returned v ∧ Rows.mailPlaysSpec.post enc Tryd.prog Tryd.f4 false true false false W args v W' := by
 have hval := hval0
 have hW' := hW
 obtain ⟨p, q, hA0, hV, rfl, hfz, hnd⟩ := hW
 have hA : DataW.TrodAll enc Tryd.prog W 0 (fun _ => true) true Tryd.f4.params.toList args.toList ds p := hA0
 rw [Tryd.params4] at hA hval
 obtain ⟨v0, vs0, d0, ds0, p0, q0, hargs, rfl, rfl, h0, r0⟩ := trodAll_cons hA
 obtain ⟨v1, vs1, d1, ds1, p1, q1, rfl, rfl, rfl, h1, r1⟩ := trodAll_cons r0
 obtain ⟨rfl, rfl, rfl⟩ := trodAll_nil r1
 obtain rfl : args = #[v0, v1] := by cases args; simp_all
 obtain ⟨rfl, rfl⟩ := trodVars_none hV
 have hs : Gal.Within (DataW.weightsEach Tryd.prog [3, 38] [d0, d1]) := hs0
 simp only [DataW.weightsEach] at hs
 have s0 := hs.left
 have s1 := hs.right.left
 clear hs hs0
 have k0 := h0
 have lt0 : ∀ x ∈ p0, x.block < W.heap.size := by obtain ⟨m, hm⟩ := k0; exact DataW.trod_lt m _ _ _ hm
 have k1 := h1
 have lt1 : ∀ x ∈ p1, x.block < W.heap.size := by obtain ⟨m, hm⟩ := k1; exact DataW.trod_lt m _ _ _ hm
 obtain ⟨a0, rfl, rfl, rfl, w0⟩ := open_int Tryd.underlying3 (hval 0 3 v0 rfl rfl) h0
 obtain ⟨a1, w1⟩ := open_lMailOp_sized (hval 1 38 v1 rfl rfl) h1 s1
 clear hA0 hval0
 refine (walk a0 a1 v1 W w0 w1 hh).mono fun e W' ⟨he, bel⟩ => ?_
 subst he
 exact ⟨_, rfl, _, _, _, [], _, [], hW', trodAll_mk1 (shut_bool Tryd.underlying4 _), (trodAll_cons_mk (Below.trod laidOut (by kernel_rfl) (of_decide_eq_true (by kernel_rfl)) k0 bel lt0) (trodAll_cons_mk (Below.trod laidOut (by kernel_rfl) (of_decide_eq_true (by kernel_rfl)) k1 bel lt1) trodAll_mk0)), rfl, bel.frame _, fun h => by cases h⟩
set_option maxRecDepth 100000 in
theorem lifted (os : Os) (started : os.Started) (H : Type) (enc : TypeId × Value → H) (F : Stop.Interp) :
  ReturnsInHanded {} Tryd.checked os 4 .any ((OpenSpec.ofChange Rows.mailPlaysSpec).preRow enc Tryd.prog Tryd.f4 Rows.mailPlaysRow.domain false Rows.mailPlaysRow.laid) (((OpenSpec.ofChange Rows.mailPlaysSpec).at F).post enc Tryd.prog Tryd.f4 false true false false) := by
 obtain ⟨places, hx⟩ := reads os enc
 refine returnsInHanded_of_row (C := Tryd.checked) (s := OpenSpec.ofChange Rows.mailPlaysSpec) own started (by kernel_rfl) Tryd.func4
  (witness_row_at (enc := enc) (C := Tryd.checked) false (laidWorld os) #[.int .i64 0, .slice none 0 0] rfl (by kernel_rfl) (by kernel_rfl) (by kernel_rfl)
   (OpenSpec.preRow_of_cond 8 hx (by kernel_rfl) (fun k hk => by cases hk) (by kernel_rfl) (laid_met os))) ?_
 intro W base args ds gs before hval hW _ _ hsz hL _ _
 exact contract H enc W base args ds gs before hval hW (handle_of_laid hL) hsz
theorem said : Rows.MailPlaysSaid :=
 OpenClaim.holds_of_cond 4 Tryd.f4 rfl rfl rfl rfl rfl rfl rfl ⟨rfl, rfl, rfl, rfl, rfl⟩ rfl rfl rfl rfl rfl (by kernel_rfl) Tryd.func4 (by kernel_rfl)
  (of_decide_eq_true (by kernel_rfl)) (by unfold Func.isWrapper; first | (rw [if_pos (by decide +kernel)]; kernel_rfl) | (rw [if_neg (by decide +kernel)]; exact ⟨rfl, rfl⟩))
  (fun os started H enc _ F => by rw [OpenClaim.pre_eq_preRow]; exact lifted os started H enc F)
theorem plain (f : FuncId) (fn : Func) (hf : Tryd.pinned.checked.prog.funcNamed Rows.mailPlaysRow.func = some f) (hfn : Tryd.pinned.checked.prog.funcs[f]? = some fn) :
  Rows.mailPlaysCard.stood.looks = Tryd.pinned.checked.prog.looks [] ∧ ∀ (j : Nat) t, fn.params[j]? = some t → Tryd.pinned.checked.prog.wantsStandIn t = false := by
 obtain rfl : f = 4 := Option.some.inj ((show Tryd.prog.funcNamed Rows.mailPlaysRow.func = some 4 by kernel_rfl).symm.trans hf) |>.symm
 obtain rfl : fn = Tryd.f4 := (Option.some.inj (Tryd.func4.symm.trans hfn)).symm
 refine ⟨by kernel_rfl, fun j t ht => ?_⟩
 rw [Tryd.params4] at ht
 have hm := Array.mem_of_getElem? ht
 have hc : t = 3 ∨ t = 38 := by simpa using hm
 rcases hc with rfl | rfl
 ·exact (show Tryd.prog.wantsStandIn 3 = false by kernel_rfl)
 ·exact (show Tryd.prog.wantsStandIn 38 = false by kernel_rfl)
theorem proved : Rows.MailPlaysCardSaid :=
 Claim7.holds_tied_plain_at .later [] _ _ _ _ said (fun _ h => by cases h) (by kernel_rfl) (fun _ h => by cases h) mailPlays_row_tie rfl ⟨rfl, rfl⟩ (by kernel_rfl) rfl plain (by kernel_rfl)
#print axioms proved
end Go.Proofs.YtgknjikjjklaiaaDoor.lawMailPlays
