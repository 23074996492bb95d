/- Texts joined: Clk6, Clk5, PClk2, PClk3, PPace, OpenI. -/
import Derived.Test.YtchngeagnlngaaaJ50
import Derived.Test.YtchngeagnlngaaaJ49
import Derived.Test.YtchngeagnlngaaaJ07
section
set_option linter.unusedVariables false
set_option linter.unusedSimpArgs false
set_option linter.unusedSectionVars false
set_option maxRecDepth 100000
namespace Gal
def lngL : Int → List SpanD → Int
 | t, [] => t
 | t, x :: l => lngL (max t x.2) l
def lngP : Int → List (List SpanD) → Int
 | t, [] => t
 | t, l :: q => lngP (lngL t l) q
def busyL : List SpanD → Int
 | [] => 0
 | x :: l => (x.2 - x.1) + busyL l
end Gal
namespace Go.Proofs.Ytchngeagnlngaaa
open Go.RowKit Gal Go.Maps
set_option maxHeartbeats 4000000
theorem clkLong_any (q : List (List SpanD)) (a : Option Addr) (n k b o : Nat) (F : Nat → Prop) (w : World) (h : RowAt Form.plan w F a n k b o q) :
  Calls Try.prog 18 #[.slice a n k] w fun e w' => e = .returned (.int .i64 (lngP 0 q)) ∧ Below w.heap.size w w' := by
 have HL := Lib.hid h.len
 have hmx := h.max
 unfold maxLen at hmx
 obtain ⟨R, hR⟩ : ∃ R, lngP 0 q = R := ⟨_, rfl⟩
 rw [hR]
 have HR : Hid (lngP 0 (q.drop 0) = R) := Lib.hid hR
 clear hR
 go_enter Try.func18, Try.ntmps18
 go_wp2
 go_loopw [3, 10] (fun v i wr => ∃ (t : Nat) (x : Int), t ≤ n ∧ i = .int .i64 t ∧ v = .int .i64 x ∧ Hid (lngP x (q.drop t) = R) ∧ Below w.heap.size w wr) (fun _ i _ => n - (intOf i).toNat)
 case atStart => exact ⟨0, 0, Nat.zero_le _, rfl, rfl, HR, Below.x0⟩
 case round =>
  obtain ⟨t, x, ht, rfl, rfl, hgo, hbr⟩ := hrel
  by_cases hlt : t < n
  ·obtain rfl := h.ptr (by omega)
   obtain ⟨a1, n1, k1, b1, o1, c0, hr1⟩ := plan_cell (h.keep hbr) hlt
   have hmx1 := hr1.max
   unfold maxLen at hmx1
   have HL1 := Lib.hid hr1.len
   have HGO : Hid (lngP (lngL x ((px q t).drop 0)) (q.drop (t + 1)) = R) := Lib.hid (by rw [← hgo.out, drop_px (t := t) (by rw [HL.out]; exact hlt)]; rfl)
   obtain ⟨ws, rfl⟩ : ∃ ws : World, ws = wr := ⟨_, rfl⟩
   go_wp2
   go_loopw [3, 16] (fun v i wr => ∃ (j : Nat) (y : Int), j ≤ n1 ∧ i = .int .i64 j ∧ v = .int .i64 y ∧ Hid (lngP (lngL y ((px q t).drop j)) (q.drop (t + 1)) = R) ∧ Below ws.heap.size ws wr) (fun _ i _ => n1 - (intOf i).toNat)
   case atStart => exact ⟨0, x, Nat.zero_le _, rfl, rfl, HGO, Below.x0⟩
   case round =>
    obtain ⟨j, y, hj, rfl, rfl, hgo2, hbs⟩ := hrel
    by_cases hlt2 : j < n1
    ·obtain rfl := hr1.ptr (by omega)
     obtain ⟨d0, d1⟩ := act_cells (hr1.keep hbs) hlt2
     obtain ⟨⟨x0, x1⟩, hx⟩ : ∃ x, ax (px q t) j = x := ⟨_, rfl⟩
     rw [hx] at d0 d1
     dsimp only at d0 d1
     have hgo' := hgo2.out
     rw [drop_ax (by rw [HL1.out]; exact hlt2), hx] at hgo'
     unfold lngL at hgo'
     dsimp only at hgo'
     clear hx
     have hbn : Below ws.heap.size ws (wr.alloc (.cells #[.int .i64 x0, .int .i64 x1] 118)) := (Below.y0 hbs)
     by_cases hm : y < x1
     ·rw [show max y x1 = x1 by omega] at hgo'
      have HGN := Lib.hid hgo'
      clear hgo'
      go_wp2
      go_roundw
      case rel => exact ⟨j + 1, x1, by omega, by go_num, rfl, HGN, hbn⟩
      case measure => simp [intOf]; omega
     ·rw [show max y x1 = y by omega] at hgo'
      have HGN := Lib.hid hgo'
      have e3 : (y < x1) = False := by simp; omega
      clear hgo' hm
      go_wp2
      go_roundw
      case rel => exact ⟨j + 1, y, by omega, by go_num, rfl, HGN, hbn⟩
      case measure => simp [intOf]; omega
    ·obtain rfl : n1 = j := by omega
     have HNX : Hid (lngP y (q.drop (t + 1)) = R) := Lib.hid (by
      have h1 := hgo2.out
      rw [List.drop_of_length_le (by rw [HL1.out]; exact Nat.le_refl _)] at h1
      exact h1)
     go_wp2
     go_roundw
     case rel => exact ⟨t + 1, y, by omega, by go_num, rfl, HNX, hbr.trans (hbs.mono hbr.size)⟩
     case measure => simp [intOf]; omega
  ·obtain rfl : n = t := by omega
   have HV : Hid (R = x) := Lib.hid (by rw [← hgo.out, List.drop_of_length_le (by rw [HL.out]; exact Nat.le_refl _)]; rfl)
   go_wp2
   go_ret
   exact ⟨by rw [HV.out]; rfl, hbr⟩
end Go.Proofs.Ytchngeagnlngaaa
end
section
set_option linter.unusedVariables false
set_option linter.unusedSimpArgs false
set_option linter.unusedSectionVars false
set_option maxRecDepth 100000
namespace Gal
open Go Go.RowKit
def costOk (l : List Int) (n : Nat) : Prop := ∀ i, i < n → 1 ≤ ix l i ∧ ix l i ≤ 1000000
instance (l : List Int) (n : Nat) : Decidable (costOk l n) := by unfold costOk; exact inferInstance
end Gal
namespace Go.Proofs.Ytchngeagnlngaaa
open Go.RowKit Gal Go.Maps
set_option maxHeartbeats 4000000
end Go.Proofs.Ytchngeagnlngaaa
end
section
set_option linter.unusedVariables false
set_option linter.unusedSimpArgs false
namespace Gal
structure TimesAre (p : PlanD) (th bk : List Int) (X : Nat → List SpanD) : Prop where
 len : ∀ s, s < p.length → (X s).length = (px p s).length
 spans : ∀ s, s < p.length → ∀ i, i < (px p s).length → SpanAt p th bk X s i
theorem ClkInv.are {p : PlanD} {th bk : List Int} {nx : Nat → Nat} {X : Nat → List SpanD} {l : List ((Int × ActD) × Int)} (h : ClkInv p th bk nx X l) (hn : ∀ s, s < p.length → nx s = (px p s).length) : TimesAre p th bk X :=
 ⟨fun s hs => by rw [h.len s hs, hn s hs], fun s hs i hi => h.spans s hs i (by rw [hn s hs]; exact hi)⟩
structure PlanOk (p : PlanD) (m : Nat) : Prop where
 few : (1 ≤ m ∧ m ≤ 12) ∧ 1 ≤ p.length ∧ p.length ≤ 6
 acts : ∀ s, s < p.length → actsFault m (px p s) = 0
 reach : ∃ nx, Reach p nx ∧ ∀ s, s < p.length → nx s = (px p s).length
theorem planOk_of {p : PlanD} {m : Nat} (hf : planFault m p = 0) : PlanOk p m := by
 obtain ⟨h1, h2⟩ := stage_len hf
 refine ⟨by unfold planBad at h1; omega, h2, ranOf p (2 * m * p.length), sim_reach _ _ Reach.start, ?_⟩
 by_cases hd : doneAll p (ranOf p (2 * m * p.length))
 ·exact hd
 ·have := planFault_6 (M := (m : Int)) (p := p) h1 (stageFault_none h2) (by rw [Int.toNat_natCast]; exact hd)
  rw [hf] at this
  exact absurd this (by decide)
section
variable {p : PlanD} {m : Nat} {th bk : List Int} {X Y : Nat → List SpanD}
theorem PlanOk.len (h : PlanOk p m) {s : Nat} (hs : s < p.length) : (px p s).length = 2 * m := by have := (actsFault_ok (h.acts s hs)).2.2.1; omega
/-! ### no stage does two at once -/
theorem TimesAre.from_ge (h : TimesAre p th bk X) {s i : Nat} (hs : s < p.length) (hi : i < (px p s).length) : prevTo (X s) i ≤ (ax (X s) i).1 ∧ (ax (X s) i).2 = (ax (X s) i).1 + longOf th bk s (ax (px p s) i) := by
 obtain ⟨t, _, e⟩ := h.spans s hs i hi
 rw [e]
 dsimp only
 omega
def sumW (f : ActD → Int) : List ActD → Int
 | [] => 0
 | a :: l => f a + sumW f l
theorem sumW_append (f : ActD → Int) : ∀ (x y : List ActD), sumW f (x ++ y) = sumW f x + sumW f y
 | [], y => by simp [sumW]
 | a :: x, y => by rw [List.cons_append, sumW, sumW, sumW_append f x y]; omega
theorem sumW_perm (f : ActD → Int) {x y : List ActD} (h : x.Perm y) : sumW f x = sumW f y := by
 induction h with
 | nil => rfl
 | cons a _ ih => rw [sumW, sumW, ih]
 | swap a b l => rw [sumW, sumW, sumW, sumW]; omega
 | trans _ _ h1 h2 => rw [h1, h2]
theorem sumW_const {f : ActD → Int} {c : Int} : ∀ {l : List ActD}, (∀ a ∈ l, f a = c) → sumW f l = l.length * c
 | [], _ => by simp [sumW]
 | a :: l, h => by
  rw [sumW, sumW_const (l := l) fun b hb => h b (by simp [hb]), h a (by simp), List.length_cons]
  push_cast
  rw [Int.add_mul, Int.one_mul, Int.add_comm]
theorem allActs_nodup (M : Nat) : (allActs M).Nodup := by
 unfold allActs
 refine List.nodup_append.2 ⟨?_, ?_, ?_⟩
 ·refine List.Pairwise.map _ (fun a b hab h => hab ?_) List.nodup_range
  have := congrArg Prod.snd h
  dsimp only at this
  omega
 ·refine List.Pairwise.map _ (fun a b hab h => hab ?_) List.nodup_range
  have := congrArg Prod.snd h
  dsimp only at this
  omega
 ·intro x hx y hy e
  obtain ⟨i, _, rfl⟩ := List.mem_map.1 hx
  obtain ⟨j, _, rfl⟩ := List.mem_map.1 hy
  have := congrArg Prod.fst e
  dsimp only at this
  omega
theorem acts_perm {l : List ActD} (h : actsFault m l = 0) : l.Perm (allActs m) := by
 obtain ⟨h1, h2, h3, _⟩ := actsFault_ok h
 refine (List.perm_ext_iff_of_nodup h2 (allActs_nodup m)).2 fun a => ⟨fun ha => mem_allActs.2 (okTo_mem h1 a ha), fun ha => acts_full h1 h2 (by omega) (mem_allActs.1 ha)⟩
theorem sum_long {s : Nat} (h : actsFault m (px p s) = 0) : sumW (longOf th bk s) (px p s) = m * (ix th s + ix bk s) := by
 rw [sumW_perm _ (acts_perm h)]
 unfold allActs
 rw [sumW_append, sumW_const (c := ix th s), sumW_const (c := ix bk s), List.length_map, List.length_map, List.length_range, Int.mul_add]
 ·intro a ha
  obtain ⟨i, _, rfl⟩ := List.mem_map.1 ha
  rfl
 ·intro a ha
  obtain ⟨i, _, rfl⟩ := List.mem_map.1 ha
  rfl
theorem busy_append : ∀ (x y : List SpanD), busyL (x ++ y) = busyL x + busyL y
 | [], y => by simp [busyL]
 | a :: x, y => by rw [List.cons_append, busyL, busyL, busy_append x y]; omega
theorem TimesAre.busy_take (h : TimesAre p th bk X) {s : Nat} (hs : s < p.length) : ∀ i, i ≤ (px p s).length → busyL ((X s).take i) = sumW (longOf th bk s) ((px p s).take i) ∧ busyL ((X s).take i) ≤ prevTo (X s) i
 | 0, _ => by
  unfold prevTo
  rw [if_pos rfl, List.take_zero, List.take_zero]
  exact ⟨rfl, Int.le_refl _⟩
 | i + 1, hi => by
  obtain ⟨h1, h2⟩ := h.busy_take hs i (by omega)
  obtain ⟨h3, h4⟩ := h.from_ge hs (i := i) (by omega)
  have hl := h.len s hs
  rw [take_ax (l := X s) (by omega), take_ax (l := px p s) (by omega), busy_append, sumW_append, h1]
  have e1 : busyL [ax (X s) i] = longOf th bk s (ax (px p s) i) := by rw [busyL, busyL]; omega
  have e2 : sumW (longOf th bk s) [ax (px p s) i] = longOf th bk s (ax (px p s) i) := by rw [sumW, sumW]; omega
  refine ⟨by rw [e1, e2], ?_⟩
  rw [e1]
  rw [h1] at h2
  have e3 : prevTo (X s) (i + 1) = (ax (X s) i).2 := by unfold prevTo; rw [if_neg (by omega), Nat.add_sub_cancel]
  rw [e3]
  omega
theorem TimesAre.busy (h : TimesAre p th bk X) (hp : PlanOk p m) {s : Nat} (hs : s < p.length) : busyL (X s) = m * (ix th s + ix bk s) ∧ busyL (X s) ≤ prevTo (X s) (px p s).length := by
 obtain ⟨h1, h2⟩ := h.busy_take hs _ (Nat.le_refl _)
 rw [List.take_of_length_le (by rw [h.len s hs]; exact Nat.le_refl _)] at h1 h2
 rw [List.take_of_length_le (Nat.le_refl _), sum_long (hp.acts s hs)] at h1
 exact ⟨h1, h2⟩
/-! ### how long -/
theorem lngL_ge : ∀ {l : List SpanD} {t : Int}, t ≤ lngL t l ∧ ∀ x ∈ l, x.2 ≤ lngL t l
 | [], t => ⟨Int.le_refl _, fun x hx => nomatch hx⟩
 | a :: l, t => by
  obtain ⟨h1, h2⟩ := lngL_ge (l := l) (t := max t a.2)
  rw [lngL]
  refine ⟨by omega, fun x hx => ?_⟩
  rcases List.mem_cons.1 hx with rfl | hx
  ·omega
  ·exact h2 x hx
theorem lngL_le {c : Int} : ∀ {l : List SpanD} {t : Int}, t ≤ c → (∀ x ∈ l, x.2 ≤ c) → lngL t l ≤ c
 | [], t, h, _ => h
 | a :: l, t, h, h2 => by
  rw [lngL]
  exact lngL_le (by have := h2 a (by simp); omega) fun x hx => h2 x (by simp [hx])
theorem lngP_ge : ∀ {q : List (List SpanD)} {t : Int}, t ≤ lngP t q ∧ ∀ l ∈ q, ∀ x ∈ l, x.2 ≤ lngP t q
 | [], t => ⟨Int.le_refl _, fun x hx => nomatch hx⟩
 | l :: q, t => by
  obtain ⟨h1, h2⟩ := lngP_ge (q := q) (t := lngL t l)
  obtain ⟨h3, h4⟩ := lngL_ge (l := l) (t := t)
  rw [lngP]
  refine ⟨by omega, fun x hx y hy => ?_⟩
  rcases List.mem_cons.1 hx with rfl | hx
  ·have := h4 y hy; omega
  ·exact h2 x hx y hy
theorem lngP_le {c : Int} : ∀ {q : List (List SpanD)} {t : Int}, t ≤ c → (∀ l ∈ q, ∀ x ∈ l, x.2 ≤ c) → lngP t q ≤ c
 | [], t, h, _ => h
 | l :: q, t, h, h2 => by
  rw [lngP]
  exact lngP_le (lngL_le h fun x hx => h2 l (by simp) x hx) fun l' hl x hx => h2 l' (by simp [hl]) x hx
def rowsOf (n : Nat) (X : Nat → List SpanD) : List (List SpanD) := (List.range n).map X
theorem rows_mem {n : Nat} {l : List SpanD} (h : l ∈ rowsOf n X) : ∃ s, s < n ∧ l = X s := by
 obtain ⟨s, hs, rfl⟩ := List.mem_map.1 h
 exact ⟨s, List.mem_range.1 hs, rfl⟩
theorem rows_long {n s i : Nat} (hs : s < n) (hi : i < (X s).length) : (ax (X s) i).2 ≤ lngP 0 (rowsOf n X) :=
 lngP_ge.2 (X s) (List.mem_map.2 ⟨s, List.mem_range.2 hs, rfl⟩) _ (List.mem_of_getElem? (ax_get hi))
theorem rows_le {n : Nat} {c : Int} (hc : 0 ≤ c) (h : ∀ s, s < n → ∀ i, i < (X s).length → (ax (X s) i).2 ≤ c) : lngP 0 (rowsOf n X) ≤ c := by
 refine lngP_le hc fun l hl x hx => ?_
 obtain ⟨s, hs, rfl⟩ := rows_mem hl
 obtain ⟨i, hi, rfl⟩ := mem_ax hx
 exact h s hs i hi
theorem TimesAre.least (h : TimesAre p th bk X) (hp : PlanOk p m) {s : Nat} (hs : s < p.length) : m * (ix th s + ix bk s) ≤ lngP 0 (rowsOf p.length X) := by
 obtain ⟨h1, h2⟩ := h.busy hp hs
 have h3 := hp.len hs
 have h4 := hp.few
 have h5 := rows_long (X := X) (n := p.length) (s := s) (i := 2 * m - 1) hs (by rw [h.len s hs]; omega)
 have e3 : prevTo (X s) (px p s).length = (ax (X s) (2 * m - 1)).2 := by unfold prevTo; rw [if_neg (by omega), h3]
 rw [e3] at h2
 omega
end
end Gal
end
section
set_option linter.unusedVariables false
set_option linter.unusedSimpArgs false
namespace Gal
abbrev Co := Nat × Nat
def leCo (a b : Co) : Bool := decide (a.1 ≤ b.1 ∧ a.2 ≤ b.2)
def valCo (x y : Int) (c : Co) : Int := c.1 * x + c.2 * y
def waveCo (S M : Nat) (s : Nat) (a : ActD) : Co := if a.1 = 2 then (M + S - 1, S - 1 - s + a.2.toNat) else (a.2.toNat + s, 0)
def turnCo (S M : Nat) (s : Nat) (a : ActD) : Co := if a.1 = 2 then (S + a.2.toNat, S - 1 - s + a.2.toNat) else if a.2.toNat ≤ S - 1 - s then (s + a.2.toNat, 0) else (s + a.2.toNat, a.2.toNat)
def endCo (c : Nat → ActD → Co) (s : Nat) (a : ActD) : Co := if a.1 = 2 then ((c s a).1, (c s a).2 + 1) else ((c s a).1 + 1, (c s a).2)
def depCo (c : Nat → ActD → Co) (S s : Nat) (a : ActD) : Co := if a.1 = 2 then (if s + 1 = S then (0, 0) else endCo c (s + 1) a) else (if s = 0 then (0, 0) else endCo c (s - 1) a)
def chkAct (c : Nat → ActD → Co) (S M s : Nat) (P : Co) (a : ActD) : Bool :=
 leCo P (c s a) && leCo (depCo c S s a) (c s a) && (decide (P = c s a) || decide (depCo c S s a = c s a)) && leCo (endCo c s a) (M + S - 1, M + S - 1)
def chkRow (c : Nat → ActD → Co) (S M s : Nat) : Co → List ActD → Bool
 | _, [] => true
 | P, a :: l => chkAct c S M s P a && chkRow c S M s (endCo c s a) l
def chkPlan (c : Nat → ActD → Co) (S M : Nat) : Nat → PlanD → Bool
 | _, [] => true
 | s, l :: p => chkRow c S M s (0, 0) l && chkPlan c S M (s + 1) p
theorem waves_chk : ∀ S : Fin 6, ∀ M : Fin 12, chkPlan (waveCo (S.val + 1) (M.val + 1)) (S.val + 1) (M.val + 1) 0 (waveOf (S.val + 1) (M.val + 1)) = true := by decide +kernel
theorem turns_chk : ∀ S : Fin 6, ∀ M : Fin 12, chkPlan (turnCo (S.val + 1) (M.val + 1)) (S.val + 1) (M.val + 1) 0 (turnsOf (S.val + 1) (M.val + 1)) = true := by decide +kernel
theorem wave_chk {S M : Nat} (hS : 1 ≤ S ∧ S ≤ 6) (hM : 1 ≤ M ∧ M ≤ 12) : chkPlan (waveCo S M) S M 0 (waveOf S M) = true := by
 have h1 := waves_chk ⟨S - 1, by omega⟩ ⟨M - 1, by omega⟩
 simp only [show S - 1 + 1 = S by omega, show M - 1 + 1 = M by omega] at h1
 exact h1
theorem turn_chk {S M : Nat} (hS : 1 ≤ S ∧ S ≤ 6) (hM : 1 ≤ M ∧ M ≤ 12) : chkPlan (turnCo S M) S M 0 (turnsOf S M) = true := by
 have h1 := turns_chk ⟨S - 1, by omega⟩ ⟨M - 1, by omega⟩
 simp only [show S - 1 + 1 = S by omega, show M - 1 + 1 = M by omega] at h1
 exact h1
def prevCo (c : Nat → ActD → Co) (s : Nat) (l : List ActD) (i : Nat) : Co := if i = 0 then (0, 0) else endCo c s (ax l (i - 1))
theorem chkRow_at {c : Nat → ActD → Co} {S M s : Nat} : ∀ {l : List ActD} {P : Co} {i : Nat}, chkRow c S M s P l = true → i < l.length → chkAct c S M s (if i = 0 then P else endCo c s (ax l (i - 1))) (ax l i) = true
 | [], _, _, _, h => absurd h (Nat.not_lt_zero _)
 | a :: l, P, 0, h, _ => by
  rw [chkRow, Bool.and_eq_true] at h
  rw [if_pos rfl]
  exact h.1
 | a :: l, P, i + 1, h, hi => by
  rw [chkRow, Bool.and_eq_true] at h
  have h1 := chkRow_at (i := i) h.2 (by simpa using hi)
  rw [if_neg (by omega), Nat.add_sub_cancel]
  have e1 : ax (a :: l) (i + 1) = ax l i := rfl
  rw [e1]
  by_cases h0 : i = 0
  ·subst h0
   rw [if_pos rfl] at h1
   exact h1
  ·rw [if_neg h0] at h1
   have e2 : ax (a :: l) i = ax l (i - 1) := by
    obtain ⟨j, rfl⟩ : ∃ j, i = j + 1 := ⟨i - 1, by omega⟩
    rfl
   rw [e2]
   exact h1
theorem chkPlan_at {c : Nat → ActD → Co} {S M : Nat} : ∀ {p : PlanD} {r s : Nat}, chkPlan c S M r p = true → s < p.length → chkRow c S M (r + s) (0, 0) (px p s) = true
 | [], _, _, _, h => absurd h (Nat.not_lt_zero _)
 | l :: p, r, 0, h, _ => by
  rw [chkPlan, Bool.and_eq_true] at h
  exact h.1
 | l :: p, r, s + 1, h, hs => by
  rw [chkPlan, Bool.and_eq_true] at h
  have h1 := chkPlan_at (s := s) h.2 (by simpa using hs)
  rw [show r + 1 + s = r + (s + 1) by omega] at h1
  exact h1
theorem chk_at {c : Nat → ActD → Co} {S M : Nat} {p : PlanD} (h : chkPlan c S M 0 p = true) {s i : Nat} (hs : s < p.length) (hi : i < (px p s).length) : chkAct c S M s (prevCo c s (px p s) i) (ax (px p s) i) = true := by
 have h1 := chkPlan_at h hs
 rw [Nat.zero_add] at h1
 exact chkRow_at h1 hi
section
variable {c : Nat → ActD → Co} {S M : Nat} {p : PlanD} {x y : Int} {th bk : List Int}
def closedX (c : Nat → ActD → Co) (p : PlanD) (x y : Int) (s : Nat) : List SpanD := (px p s).map fun a => (valCo x y (c s a), valCo x y (endCo c s a))
theorem closed_ax {s i : Nat} (hi : i < (px p s).length) : ax (closedX c p x y s) i = (valCo x y (c s (ax (px p s) i)), valCo x y (endCo c s (ax (px p s) i))) := by
 have h1 := ax_get hi
 unfold closedX ax at *
 rw [List.getElem?_map, h1]
 rfl
theorem closed_len {s : Nat} : (closedX c p x y s).length = (px p s).length := by simp [closedX]
theorem valCo_le (hx : 0 ≤ x) (hy : 0 ≤ y) {a b : Co} (h : leCo a b = true) : valCo x y a ≤ valCo x y b := by
 unfold leCo at h
 obtain ⟨h1, h2⟩ := of_decide_eq_true h
 unfold valCo
 have h3 : (a.1 : Int) * x ≤ (b.1 : Int) * x := Int.mul_le_mul_of_nonneg_right (by omega) hx
 have h4 : (a.2 : Int) * y ≤ (b.2 : Int) * y := Int.mul_le_mul_of_nonneg_right (by omega) hy
 omega
theorem val_end {s : Nat} {a : ActD} (hx : ix th s = x) (hy : ix bk s = y) : valCo x y (endCo c s a) = valCo x y (c s a) + longOf th bk s a := by
 unfold endCo longOf valCo
 by_cases h : a.1 = 2
 ·rw [if_pos h, if_pos h, hy]
  dsimp only
  push_cast
  rw [Int.add_mul, Int.one_mul]
  omega
 ·rw [if_neg h, if_neg h, hx]
  dsimp only
  push_cast
  rw [Int.add_mul, Int.one_mul]
  omega
theorem closed_are (hp : PlanOk p M) (hS : p.length = S) (h : chkPlan c S M 0 p = true) (hx : 0 ≤ x) (hy : 0 ≤ y) (hth : ∀ s, s < S → ix th s = x) (hbk : ∀ s, s < S → ix bk s = y) : TimesAre p th bk (closedX c p x y) := by
 refine ⟨fun s _ => closed_len, fun s hs i hi => ?_⟩
 have h1 := chk_at h hs hi
 unfold chkAct at h1
 simp only [Bool.and_eq_true, Bool.or_eq_true, decide_eq_true_eq] at h1
 obtain ⟨⟨⟨h2, h3⟩, h4⟩, _⟩ := h1
 have hpv : prevTo (closedX c p x y s) i = valCo x y (prevCo c s (px p s) i) := by
  unfold prevTo prevCo
  by_cases h0 : i = 0
  ·rw [if_pos h0, if_pos h0]; simp [valCo]
  ·rw [if_neg h0, if_neg h0, closed_ax (by omega)]
 have g2 := valCo_le hx hy h2
 have g3 := valCo_le hx hy h3
 have hact : actOk M (ax (px p s) i) := (actsFault_ok (hp.acts s hs)).1 i hi
 refine ⟨valCo x y (depCo c S s (ax (px p s) i)), ?_, ?_⟩
 ·unfold DepTo depCo
  have hmem : ∀ r, r < p.length → ∃ j, j < (closedX c p x y r).length ∧ isAt p r (ax (px p s) i) j ∧ valCo x y (endCo c r (ax (px p s) i)) = (ax (closedX c p x y r) j).2 := fun r hr => by
   have g := actsFault_ok (hp.acts r hr)
   obtain ⟨j, hj, e⟩ := mem_ax (acts_full g.1 g.2.1 (by omega) hact)
   exact ⟨j, by rw [closed_len]; exact hj, ⟨hj, e⟩, by rw [closed_ax hj, e]⟩
  rw [hS]
  by_cases k2 : (ax (px p s) i).1 = 2
  ·rw [if_pos k2, if_pos k2]
   by_cases e : s + 1 = S
   ·rw [if_pos e, if_pos e]; simp [valCo]
   ·rw [if_neg e, if_neg e]
    exact hmem (s + 1) (by omega)
  ·rw [if_neg k2, if_neg k2]
   by_cases e : s = 0
   ·rw [if_pos e, if_pos e]; simp [valCo]
   ·rw [if_neg e, if_neg e]
    exact hmem (s - 1) (by omega)
 ·rw [closed_ax hi, hpv, val_end (hth s (by omega)) (hbk s (by omega))]
  have hmax : max (valCo x y (prevCo c s (px p s) i)) (valCo x y (depCo c S s (ax (px p s) i))) = valCo x y (c s (ax (px p s) i)) := by
   rcases h4 with h4 | h4 <;> rw [h4] at * <;> omega
  rw [hmax]
theorem closed_long (hp : PlanOk p M) (hS : p.length = S) (h : chkPlan c S M 0 p = true) (hx : 0 ≤ x) (hy : 0 ≤ y) (hl : endCo c 0 (2, ((M - 1 : Nat) : Int)) = (M + S - 1, M + S - 1)) : lngP 0 (rowsOf S (closedX c p x y)) = valCo x y (M + S - 1, M + S - 1) := by
 obtain ⟨⟨m1, _⟩, n1, _⟩ := hp.few
 apply Int.le_antisymm
 ·refine rows_le (by unfold valCo; dsimp only; have := Int.mul_nonneg (Int.natCast_nonneg (M + S - 1)) hx; have := Int.mul_nonneg (Int.natCast_nonneg (M + S - 1)) hy; omega) fun s hs i hi => ?_
  rw [closed_len] at hi
  rw [closed_ax hi]
  have h1 := chk_at h (by omega) hi
  unfold chkAct at h1
  simp only [Bool.and_eq_true] at h1
  exact valCo_le hx hy h1.2
 ·have g := actsFault_ok (hp.acts 0 (by omega))
  obtain ⟨j, hj, e⟩ := mem_ax (acts_full g.1 g.2.1 (by omega) (a := (2, ((M - 1 : Nat) : Int))) ⟨Or.inr rfl, by dsimp only; omega, by dsimp only; omega⟩)
  have h1 := rows_long (X := closedX c p x y) (n := S) (s := 0) (i := j) (by omega) (by rw [closed_len]; exact hj)
  rw [closed_ax hj, e, hl] at h1
  exact h1
theorem wave_last (hS : 1 ≤ S) (hM : 1 ≤ M) : endCo (waveCo S M) 0 (2, ((M - 1 : Nat) : Int)) = (M + S - 1, M + S - 1) := by
 unfold endCo waveCo
 simp only [if_pos rfl, Int.toNat_natCast, Prod.mk.injEq, true_and, ↓reduceIte]
 omega
theorem turn_last (hS : 1 ≤ S) (hM : 1 ≤ M) : endCo (turnCo S M) 0 (2, ((M - 1 : Nat) : Int)) = (M + S - 1, M + S - 1) := by
 unfold endCo turnCo
 simp only [Int.toNat_natCast, Prod.mk.injEq, ↓reduceIte]
 omega
end
end Gal
end
section
set_option linter.unusedVariables false
set_option linter.unusedSimpArgs false
namespace Gal
section
variable {p : PlanD} {m : Nat} {th bk th' bk' : List Int} {X Y : Nat → List SpanD}
theorem prev_le {x y : List SpanD} {i : Nat} (h : i ≠ 0 → (ax x (i - 1)).2 ≤ (ax y (i - 1)).2) : prevTo x i ≤ prevTo y i := by
 unfold prevTo
 by_cases h0 : i = 0
 ·rw [if_pos h0, if_pos h0]; exact Int.le_refl _
 ·rw [if_neg h0, if_neg h0]; exact h h0
theorem times_mono (hp : PlanOk p m) (hX : TimesAre p th bk X) (hY : TimesAre p th' bk' Y) (hle : ∀ s, s < p.length → ∀ a, longOf th bk s a ≤ longOf th' bk' s a) :
  ∀ s, s < p.length → ∀ i, i < (px p s).length → (ax (X s) i).2 ≤ (ax (Y s) i).2 := by
 obtain ⟨nx, hr, hfull⟩ := hp.reach
 have key : ∀ nx, Reach p nx → ∀ s, s < p.length → ∀ i, i < nx s → (ax (X s) i).2 ≤ (ax (Y s) i).2 := fun nx hr => by
  induction hr with
  | start => exact fun _ _ i hi => absurd hi (Nat.not_lt_zero _)
  | @step nx s hr hs hc ih =>
   intro r hr' i hi
   by_cases hold : i < nx r
   ·exact ih r hr' i hold
   ·unfold bump at hi
    by_cases e : r = s
    ·subst e
     rw [if_pos rfl] at hi
     obtain rfl : i = nx r := by omega
     obtain ⟨t, ht, e1⟩ := hX.spans r hs _ hc.1
     obtain ⟨u, hu, e2⟩ := hY.spans r hs _ hc.1
     have hpv : prevTo (X r) (nx r) ≤ prevTo (Y r) (nx r) := prev_le fun h0 => ih r hs _ (by omega)
     have hrd := (refRdy_is (nx := nx) (hp.acts r hs) hc.1).2 hc.2
     have htu : t ≤ u := by
      unfold refRdy at hrd
      unfold DepTo at ht hu
      by_cases k2 : (ax (px p r) (nx r)).1 = 2
      ·rw [if_pos k2] at hrd ht hu
       by_cases h3 : r + 1 = p.length
       ·rw [if_pos h3] at ht hu; omega
       ·rw [if_neg h3] at ht hu
        obtain ⟨j, hj, hja⟩ := isAt_take (m := 0) (hrd.resolve_left h3)
        obtain ⟨j1, _, hj1, rfl⟩ := ht
        obtain ⟨j2, _, hj2, rfl⟩ := hu
        obtain rfl := isAt_inj (hp.acts (r + 1) (by omega)) hja hj1
        obtain rfl := isAt_inj (hp.acts (r + 1) (by omega)) hja hj2
        exact ih (r + 1) (by omega) _ hj
      ·rw [if_neg k2] at hrd ht hu
       by_cases h3 : r = 0
       ·rw [if_pos h3] at ht hu; omega
       ·rw [if_neg h3] at ht hu
        obtain ⟨j, hj, hja⟩ := isAt_take (m := 0) (hrd.resolve_left h3)
        obtain ⟨j1, _, hj1, rfl⟩ := ht
        obtain ⟨j2, _, hj2, rfl⟩ := hu
        obtain rfl := isAt_inj (hp.acts (r - 1) (by omega)) hja hj1
        obtain rfl := isAt_inj (hp.acts (r - 1) (by omega)) hja hj2
        exact ih (r - 1) (by omega) _ hj
     have hlo := hle r hs (ax (px p r) (nx r))
     rw [e1, e2]
     dsimp only
     omega
    ·rw [if_neg e] at hi; exact absurd hi hold
 intro s hs i hi
 exact key nx hr s hs i (by rw [hfull s hs]; exact hi)
theorem pace {c : Nat → ActD → Co} {S M : Nat} {x : Int} {cs : List Int} (hp : PlanOk p M) (hS : p.length = S) (h : chkPlan c S M 0 p = true) (hl : endCo c 0 (2, ((M - 1 : Nat) : Int)) = (M + S - 1, M + S - 1))
  (hc : ∀ s, s < S → 1 ≤ ix cs s ∧ ix cs s ≤ x) (hd : ∃ s, s < S ∧ ix cs s = x) (hX : TimesAre p cs cs X) :
  2 * (M : Int) * x ≤ lngP 0 (rowsOf S X) ∧ lngP 0 (rowsOf S X) ≤ 2 * ((M : Int) + S - 1) * x := by
 obtain ⟨d, hd1, hd2⟩ := hd
 have hx : 0 ≤ x := by have := hc d hd1; omega
 have hf := hp.few
 subst hS
 refine ⟨?_, ?_⟩
 ·have h1 := hX.least hp hd1
  rw [hd2, show x + x = 2 * x by omega, show (M : Int) * (2 * x) = 2 * (M : Int) * x by rw [← Int.mul_assoc, Int.mul_comm (M : Int) 2]] at h1
  exact h1
 ·have hrep : ∀ s, s < p.length → ix (List.replicate p.length x) s = x := fun s hs => by simp [ix, hs]
  have hY := closed_are (th := List.replicate p.length x) (bk := List.replicate p.length x) hp rfl h hx hx hrep hrep
  have h2 := closed_long hp rfl h hx hx hl
  have h3 := times_mono hp hX hY (fun s hs a => by
   unfold longOf
   have := hc s hs
   split <;> rw [hrep s hs] <;> omega)
  have h4 : lngP 0 (rowsOf p.length X) ≤ lngP 0 (rowsOf p.length (closedX c p x x)) := by
   refine rows_le ?_ fun s hs i hi => ?_
   ·rw [h2]
    unfold valCo
    dsimp only
    have := Int.mul_nonneg (Int.natCast_nonneg (M + p.length - 1)) hx
    omega
   ·rw [hX.len s hs] at hi
    exact Int.le_trans (h3 s hs i hi) (rows_long hs (by rw [closed_len]; exact hi))
  rw [h2] at h4
  have e : valCo x x (M + p.length - 1, M + p.length - 1) = 2 * ((M : Int) + p.length - 1) * x := by
   unfold valCo
   dsimp only
   rw [show ((M + p.length - 1 : Nat) : Int) = (M : Int) + p.length - 1 by omega, ← Int.two_mul, Int.mul_assoc]
  rw [e] at h4
  exact h4
end
end Gal
end
section
set_option linter.unusedVariables false
set_option linter.unusedSimpArgs false
namespace Go.Proofs.Ytchngeagnlngaaa
open Go.ChangeShapes Go.WideShapes Go.ChangeAt Go.RowKit Go.Joins Gal
def IntsV (w : World) (v : Value) (xs : List Int) : Prop := ∃ a n k b o, v = .slice a n k ∧ IntsAt w a n k b o xs
set_option maxRecDepth 100000
theorem open_lint {H : Type} {enc : TypeId × Value → H} {w : World} {base b0 : Nat} {r : Reach} {spare : Nat → Bool} {held : Bool} {v : Value} {d : DataW H} {p : List MemPlace}
  (hv : Value.okWide Try.prog w r b0 26 v) (h : DataW.Trod enc Try.prog w base spare held 26 v d p) : ∃ xs : List Int, IntsV w v xs := by
 obtain ⟨a0, len0, cap0, rfl⟩ := okWide_slice Try.underlying26 hv
 obtain ⟨fuel, hy⟩ := h
 obtain ⟨a, n, cap, b, off, xs, e, hr⟩ := open_ints_at (v := .slice a0 len0 cap0) hy
 exact ⟨xs, a, n, cap, b, off, e, hr⟩
end Go.Proofs.Ytchngeagnlngaaa
end
