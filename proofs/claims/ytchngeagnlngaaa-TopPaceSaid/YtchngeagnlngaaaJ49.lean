/- Texts joined: PClk, Clk1. -/
import Derived.Test.YtchngeagnlngaaaJ48
import Derived.BigQuiet
section
set_option linter.unusedVariables false
set_option linter.unusedSimpArgs false
namespace Gal
def besideOf (s : Int) (a : ActD) : Int := if a.1 = 2 then s + 1 else s - 1
def longOf (th bk : List Int) (s : Nat) (a : ActD) : Int := if a.1 = 2 then ix bk s else ix th s
def endOf (n : Nat) (l : List ((Int × ActD) × Int)) (s : Int) (a : ActD) : Int × Bool := if s < 0 ∨ (n : Int) ≤ s then (0, true) else (look l (s, a), hasK l (s, a))
theorem endOf_out {n : Nat} {l : List ((Int × ActD) × Int)} {s : Int} {a : ActD} (h : s < 0 ∨ (n : Int) ≤ s) : endOf n l s a = (0, true) := if_pos h
theorem endOf_in {n : Nat} {l : List ((Int × ActD) × Int)} {s : Int} {a : ActD} (h : ¬ (s < 0 ∨ (n : Int) ≤ s)) : endOf n l s a = (look l (s, a), hasK l (s, a)) := if_neg h
abbrev SpanD := Int × Int
def prevTo (x : List SpanD) (i : Nat) : Int := if i = 0 then 0 else (ax x (i - 1)).2
def isAt (p : PlanD) (k : Nat) (a : ActD) (j : Nat) : Prop := j < (px p k).length ∧ ax (px p k) j = a
def DepTo (p : PlanD) (X : Nat → List SpanD) (s : Nat) (a : ActD) (t : Int) : Prop :=
 if a.1 = 2 then (if s + 1 = p.length then t = 0 else ∃ j, j < (X (s + 1)).length ∧ isAt p (s + 1) a j ∧ t = (ax (X (s + 1)) j).2)
 else (if s = 0 then t = 0 else ∃ j, j < (X (s - 1)).length ∧ isAt p (s - 1) a j ∧ t = (ax (X (s - 1)) j).2)
def SpanAt (p : PlanD) (th bk : List Int) (X : Nat → List SpanD) (s i : Nat) : Prop :=
 ∃ t, DepTo p X s (ax (px p s) i) t ∧ ax (X s) i = (max (prevTo (X s) i) t, max (prevTo (X s) i) t + longOf th bk s (ax (px p s) i))
theorem ax_more {α : Type} {x y : List SpanD} {i : Nat} (h : i < x.length) : ax (x ++ y) i = ax x i := by unfold ax; rw [List.getElem?_append_left h]
theorem ax_last {x : List SpanD} {a : SpanD} : ax (x ++ [a]) x.length = a := by unfold ax; simp
structure ClkInv (p : PlanD) (th bk : List Int) (nx : Nat → Nat) (X : Nat → List SpanD) (l : List ((Int × ActD) × Int)) : Prop where
 reach : Reach p nx
 len : ∀ s, s < p.length → (X s).length = nx s
 spans : ∀ s, s < p.length → ∀ i, i < nx s → SpanAt p th bk X s i
 met : ∀ s, s < p.length → ∀ i, i < nx s → hasK l ((s : Int), ax (px p s) i) = true ∧ look l ((s : Int), ax (px p s) i) = (ax (X s) i).2
 only : ∀ q ∈ l, ∃ s i, s < p.length ∧ i < nx s ∧ q.1 = ((s : Int), ax (px p s) i)
 bd : ∀ s, s < p.length → ∀ i, i < nx s → 0 ≤ (ax (X s) i).2 ∧ (ax (X s) i).2 ≤ 1000000 * (sumTo' nx p.length : Int)
theorem ClkInv.nil (p : PlanD) (th bk : List Int) : ClkInv p th bk (fun _ => 0) (fun _ => []) [] :=
 ⟨.start, fun _ _ => rfl, fun _ _ i hi => absurd hi (Nat.not_lt_zero _), fun _ _ i hi => absurd hi (Nat.not_lt_zero _), (fun q hq => nomatch hq), fun _ _ i hi => absurd hi (Nat.not_lt_zero _)⟩
theorem isAt_inj {m : Int} {p : PlanD} {k : Nat} {a : ActD} {i j : Nat} (hf : actsFault m (px p k) = 0) (hi : isAt p k a i) (hj : isAt p k a j) : i = j := by
 have h2 := (actsFault_ok hf).2.1
 rcases Nat.lt_trichotomy i j with g | g | g
 ·exact absurd h2 (twice_iff.1 ⟨j, hj.1, i, g, hj.2.trans hi.2.symm⟩)
 ·exact g
 ·exact absurd h2 (twice_iff.1 ⟨i, hi.1, j, g, hi.2.trans hj.2.symm⟩)
theorem isAt_take {m : Int} {p : PlanD} {k : Nat} {a : ActD} {y : Nat} (h : a ∈ (px p k).take y) : ∃ j, j < y ∧ isAt p k a j := by
 obtain ⟨j, hj⟩ := List.getElem?_of_mem h
 have hjy : j < y ∧ j < (px p k).length := by
  rcases Nat.lt_or_ge j ((px p k).take y).length with h1 | h1
  ·rw [List.length_take] at h1; omega
  ·rw [List.getElem?_eq_none h1] at hj; cases hj
 rw [List.getElem?_take_of_lt hjy.1, ax_get hjy.2] at hj
 simp only [Option.some.injEq] at hj
 exact ⟨j, hjy.1, hjy.2, hj⟩
section
variable {p : PlanD} {th bk : List Int} {nx : Nat → Nat} {X : Nat → List SpanD} {l : List ((Int × ActD) × Int)}
theorem ClkInv.has (h : ClkInv p th bk nx X l) {s : Nat} (hs : s < p.length) {a : ActD} : hasK l ((s : Int), a) = true ↔ a ∈ (px p s).take (nx s) := by
 constructor
 ·intro h1
  obtain ⟨q, hq, e⟩ := hasK_true.1 h1
  obtain ⟨r, i, hr, hi, e2⟩ := h.only q hq
  rw [e] at e2
  have h3 : s = r := by have := congrArg Prod.fst e2; dsimp only at this; omega
  have h4 := congrArg Prod.snd e2
  dsimp only at h4
  subst h3
  rw [h4]
  exact ax_mem_take (Nat.lt_of_lt_of_le hi (reach_bd h.reach s hs)) hi
 ·intro h1
  obtain ⟨j, hj, h2, h3⟩ := isAt_take (m := 0) h1
  rw [← h3]
  exact (h.met s hs j hj).1
theorem ClkInv.dep (h : ClkInv p th bk nx X l) {m : Int} (hf : ∀ s, s < p.length → actsFault m (px p s) = 0) {s : Nat} (hs : s < p.length) (hl : nx s < (px p s).length) {a : ActD} (ha : ax (px p s) (nx s) = a) :
  (can p nx s ∧ ∃ t, DepTo p X s a t ∧ endOf p.length l (besideOf s a) a = (t, true) ∧ 0 ≤ t ∧ t ≤ 1000000 * (sumTo' nx p.length : Int)) ∨ (¬ can p nx s ∧ endOf p.length l (besideOf s a) a = (0, false)) := by
 have hiff : can p nx s ↔ refRdy p nx s a := by
  rw [← ha, refRdy_is (hf s hs) hl]
  exact ⟨fun h => h.2, fun h => ⟨hl, h⟩⟩
 have hk : ∀ k : Nat, k < p.length → (a ∈ (px p k).take (nx k) → ∃ j, j < (X k).length ∧ isAt p k a j ∧ endOf p.length l (k : Int) a = ((ax (X k) j).2, true) ∧ 0 ≤ (ax (X k) j).2 ∧ (ax (X k) j).2 ≤ 1000000 * (sumTo' nx p.length : Int)) ∧ (a ∉ (px p k).take (nx k) → endOf p.length l (k : Int) a = (0, false)) := fun k hk => by
  constructor
  ·intro hm
   obtain ⟨j, hj, h1⟩ := isAt_take (m := 0) hm
   have h2 := h.met k hk j hj
   rw [h1.2] at h2
   refine ⟨j, by rw [h.len k hk]; exact hj, h1, ?_, h.bd k hk j hj⟩
   rw [endOf_in (by omega), h2.1, h2.2]
  ·intro hm
   have h2 : hasK l ((k : Int), a) = false := by
    cases he : hasK l ((k : Int), a) with
    | false => rfl
    | true => exact absurd ((h.has hk).1 he) hm
   rw [endOf_in (by omega), h2, look_none fun q hq e => by
    have := hasK_yes (l := l) ⟨q, hq, e⟩
    rw [h2] at this
    cases this]
 rw [hiff]
 unfold refRdy DepTo besideOf
 by_cases k2 : a.1 = 2
 ·rw [if_pos k2, if_pos k2]
  simp only [if_pos k2]
  by_cases e : s + 1 = p.length
  ·left
   refine ⟨Or.inl e, 0, by rw [if_pos e], endOf_out (by omega), by omega, by omega⟩
  ·obtain ⟨g1, g2⟩ := hk (s + 1) (by omega)
   rw [show ((s + 1 : Nat) : Int) = (s : Int) + 1 by omega] at g1 g2
   by_cases hm : a ∈ (px p (s + 1)).take (nx (s + 1))
   ·left
    obtain ⟨j, j1, j2, j3, j4⟩ := g1 hm
    exact ⟨Or.inr hm, _, by rw [if_neg e]; exact ⟨j, j1, j2, rfl⟩, j3, j4⟩
   ·right
    exact ⟨fun h => h.elim e hm, g2 hm⟩
 ·rw [if_neg k2, if_neg k2]
  simp only [if_neg k2]
  by_cases e : s = 0
  ·left
   refine ⟨Or.inl e, 0, by rw [if_pos e], endOf_out (by omega), by omega, by omega⟩
  ·obtain ⟨g1, g2⟩ := hk (s - 1) (by omega)
   rw [show ((s - 1 : Nat) : Int) = (s : Int) - 1 by omega] at g1 g2
   by_cases hm : a ∈ (px p (s - 1)).take (nx (s - 1))
   ·left
    obtain ⟨j, j1, j2, j3, j4⟩ := g1 hm
    exact ⟨Or.inr hm, _, by rw [if_neg e]; exact ⟨j, j1, j2, rfl⟩, j3, j4⟩
   ·right
    exact ⟨fun h => h.elim e hm, g2 hm⟩
def putRow (X : Nat → List SpanD) (s : Nat) (x : SpanD) : Nat → List SpanD := fun r => if r = s then X s ++ [x] else X r
theorem putRow_ax {s r i : Nat} {x : SpanD} (h : i < (X r).length) : ax (putRow X s x r) i = ax (X r) i := by
 unfold putRow
 by_cases e : r = s
 ·subst e; rw [if_pos rfl, ax_more (α := Int) h]
 ·rw [if_neg e]
theorem putRow_len {s r : Nat} {x : SpanD} : (X r).length ≤ (putRow X s x r).length := by
 unfold putRow
 by_cases e : r = s
 ·subst e; rw [if_pos rfl]; simp
 ·rw [if_neg e]; exact Nat.le_refl _
theorem dep_put {s r : Nat} {x : SpanD} {a : ActD} {t : Int} (h : DepTo p X r a t) : DepTo p (putRow X s x) r a t := by
 unfold DepTo at h ⊢
 by_cases k2 : a.1 = 2
 ·rw [if_pos k2] at h ⊢
  by_cases e : r + 1 = p.length
  ·rw [if_pos e] at h ⊢; exact h
  ·rw [if_neg e] at h ⊢
   obtain ⟨j, j1, j2, j3⟩ := h
   exact ⟨j, Nat.lt_of_lt_of_le j1 putRow_len, j2, by rw [putRow_ax j1]; exact j3⟩
 ·rw [if_neg k2] at h ⊢
  by_cases e : r = 0
  ·rw [if_pos e] at h ⊢; exact h
  ·rw [if_neg e] at h ⊢
   obtain ⟨j, j1, j2, j3⟩ := h
   exact ⟨j, Nat.lt_of_lt_of_le j1 putRow_len, j2, by rw [putRow_ax j1]; exact j3⟩
theorem prev_put {s r i : Nat} {x : SpanD} (h : i ≤ (X r).length) : prevTo (putRow X s x r) i = prevTo (X r) i := by
 unfold prevTo
 by_cases e : i = 0
 ·rw [if_pos e, if_pos e]
 ·rw [if_neg e, if_neg e, putRow_ax (by omega)]
theorem ClkInv.new (h : ClkInv p th bk nx X l) {m : Int} (hf : ∀ s, s < p.length → actsFault m (px p s) = 0) {s : Nat} (hs : s < p.length) (hl : nx s < (px p s).length) {a : ActD} (ha : ax (px p s) (nx s) = a) : ∀ q ∈ l, q.1 ≠ ((s : Int), a) := fun q hq e => by
 have h1 := (h.has hs).1 (hasK_yes ⟨q, hq, e⟩)
 rw [← ha] at h1
 exact nodup_no hl h1 (actsFault_ok (hf s hs)).2.1
theorem ClkInv.prev (h : ClkInv p th bk nx X l) {s : Nat} (hs : s < p.length) : 0 ≤ prevTo (X s) (nx s) ∧ prevTo (X s) (nx s) ≤ 1000000 * (sumTo' nx p.length : Int) := by
 unfold prevTo
 by_cases e : nx s = 0
 ·rw [if_pos e]; omega
 ·rw [if_neg e]; exact h.bd s hs _ (by omega)
theorem ClkInv.step (h : ClkInv p th bk nx X l) {m : Int} (hf : ∀ s, s < p.length → actsFault m (px p s) = 0) {s : Nat} (hs : s < p.length) {a : ActD} (ha : ax (px p s) (nx s) = a) (hc : can p nx s) {t F L : Int} (ht : DepTo p X s a t) (htb : 0 ≤ t ∧ t ≤ 1000000 * (sumTo' nx p.length : Int))
  (hF : max (prevTo (X s) (nx s)) t = F) (hL : longOf th bk s a = L) (hLb : 1 ≤ L ∧ L ≤ 1000000) : ClkInv p th bk (bump nx s) (putRow X s (F, F + L)) (l ++ [(((s : Int), a), F + L)]) := by
 have hnew := h.new hf hs hc.1 ha
 have hpv := h.prev hs
 have hsb := sum_bump (nx := nx) (s := s) (n := p.length) hs
 have hbn : ∀ r, r < p.length → ∀ i, i < bump nx s r → (i < nx r) ∨ (r = s ∧ i = nx s) := fun r hr i hi => by
  unfold bump at hi
  by_cases e : r = s
  ·subst e; rw [if_pos rfl] at hi; omega
  ·rw [if_neg e] at hi; exact Or.inl hi
 have hlast : ax (putRow X s (F, F + L) s) (nx s) = (F, F + L) := by
  unfold putRow
  rw [if_pos rfl, ← h.len s hs, ax_last]
 refine ⟨.step h.reach hs hc, fun r hr => ?_, fun r hr i hi => ?_, fun r hr i hi => ?_, fun q hq => ?_, fun r hr i hi => ?_⟩
 ·unfold putRow bump
  by_cases e : r = s
  ·subst e; rw [if_pos rfl, if_pos rfl, List.length_append, h.len r hr]; rfl
  ·rw [if_neg e, if_neg e]; exact h.len r hr
 ·rcases hbn r hr i hi with h1 | ⟨rfl, rfl⟩
  ·obtain ⟨u, u1, u2⟩ := h.spans r hr i h1
   have hil : i < (X r).length := by rw [h.len r hr]; exact h1
   exact ⟨u, dep_put u1, by rw [putRow_ax hil, prev_put (by omega)]; exact u2⟩
  ·refine ⟨t, by rw [ha]; exact dep_put ht, ?_⟩
   rw [hlast, prev_put (by rw [h.len r hr]; exact Nat.le_refl _), hF, ha, hL]
 ·rcases hbn r hr i hi with h1 | ⟨rfl, rfl⟩
  ·obtain ⟨u1, u2⟩ := h.met r hr i h1
   have hil : i < (X r).length := by rw [h.len r hr]; exact h1
   obtain ⟨q, hq, e⟩ := hasK_true.1 u1
   refine ⟨hasK_yes ⟨q, List.mem_append_left _ hq, e⟩, ?_⟩
   rw [putRow_ax hil, ← u2]
   unfold look
   rw [List.find?_append]
   cases hfd : l.find? fun p_1 => decide (p_1.1 = ((r : Int), ax (px p r) i)) with
   | some q => rfl
   | none => exact absurd (List.find?_eq_none.1 hfd q hq) (by simp [e])
  ·rw [ha, hlast]
   refine ⟨hasK_yes ⟨_, List.mem_append_right _ (List.mem_singleton.2 rfl), rfl⟩, ?_⟩
   unfold look
   rw [List.find?_append, List.find?_eq_none.2 fun q hq => by simpa using hnew q hq]
   simp
 ·rcases List.mem_append.1 hq with h1 | h1
  ·obtain ⟨r, i, r1, i1, e⟩ := h.only q h1
   refine ⟨r, i, r1, ?_, e⟩
   unfold bump
   by_cases e2 : r = s
   ·subst e2; rw [if_pos rfl]; omega
   ·rw [if_neg e2]; exact i1
  ·rw [List.mem_singleton.1 h1]
   exact ⟨s, nx s, hs, by unfold bump; rw [if_pos rfl]; omega, by rw [ha]⟩
 ·rw [hsb]
  rcases hbn r hr i hi with h1 | ⟨rfl, rfl⟩
  ·have hil : i < (X r).length := by rw [h.len r hr]; exact h1
   rw [putRow_ax hil]
   have := h.bd r hr i h1
   push_cast
   omega
  ·rw [hlast]
   dsimp only
   push_cast
   omega
end
end Gal
end
section
set_option linter.unusedVariables false
set_option linter.unusedSimpArgs false
set_option linter.unusedSectionVars false
set_option maxRecDepth 100000
namespace Go.Proofs.Ytchngeagnlngaaa
open Go.RowKit Gal Go.Maps
set_option maxHeartbeats 4000000
theorem at3_row : 177 < Try.prog.types.size := by decide +kernel
theorem at3_key : Try.prog.keyTypeAt 3 177 = true := by kernel_rfl
theorem at3_wide : (match Try.prog.underlying 177 with | some (.array _ _) | some (.struct _) => true | _ => false) = true := by kernel_rfl
theorem at3_keyed : Keyed Try.prog 177 := Keyed.of_law (deep_law_laid plan_laidOut (m := 3) (by omega) at3_row at3_key at3_wide)
theorem at3_keyOf {x : Int × ActD} (h0 : 0 ≤ x.1 ∧ x.1 < 6) (h : actOk 12 x.2) : ∃ kl, keyOf Try.prog 177 (atV x) = some kl := by
 obtain ⟨s, i, j, hs, hi, hj, rfl⟩ := small_at h0 h
 have hall : ∀ s : Fin 6, ∀ i : Fin 2, ∀ j : Fin 12, (keyOf Try.prog 177 (atV ((s.val : Int), ((i.val : Int) + 1, (j.val : Int))))).isSome = true := by decide +kernel
 exact Option.isSome_iff_exists.1 (hall ⟨s, hs⟩ ⟨i, hi⟩ ⟨j, hj⟩)
structure DialAt (w : World) (D B : Nat) (vp vt vb : Value) (l : List ((Int × ActD) × Int)) : Prop where
 box : Box w D [vp, vt, vb, .map (some B)] 114
 map : MapIs Try.prog 177 atV w B l
theorem DialAt.keep {w w' : World} {D B : Nat} {vp vt vb : Value} {l : List ((Int × ActD) × Int)} (h : DialAt w D B vp vt vb l) (hb : Below w.heap.size w w') : DialAt w' D B vp vt vb l := ⟨h.box.keep hb, h.map.keep hb⟩
theorem DialAt.alloc {w : World} {D B : Nat} {vp vt vb : Value} {l : List ((Int × ActD) × Int)} (h : DialAt w D B vp vt vb l) (o : Obj) : DialAt (w.alloc o) D B vp vt vb l := ⟨h.box.alloc o, h.map.alloc o⟩
theorem DialAt.drewN {w : World} {D B : Nat} {vp vt vb : Value} {l : List ((Int × ActD) × Int)} (h : DialAt w D B vp vt vb l) (q : Nat) : DialAt (w.drewN q) D B vp vt vb l := ⟨h.box.drewN q, h.map.drewN q⟩
theorem clkEnd_any (s : Int) (a : ActD) (D B : Nat) (pa : Option Addr) (n k : Nat) (vt vb : Value) (l : List ((Int × ActD) × Int)) (w : World) (h : DialAt w D B (.slice pa n k) vt vb l) (hn : n ≤ 6) (ha : actOk 12 a) :
  Calls Try.prog 79 #[.pointer (some ⟨D, 0, none⟩), .int .i64 s, .agg #[.int .i64 a.1, .int .i64 a.2]] w fun e w' => e = .returned (.tuple #[.int .i64 (endOf n l s a).1, .bool (endOf n l s a).2]) ∧ Below w.heap.size w w' := by
 have h2 := h.alloc (.cells #[.int .i64 a.1, .int .i64 a.2] 122)
 have c0 := h2.box.cell 0
 have c3 := h2.box.cell 3
 by_cases g1 : s < 0
 ·have HE := Lib.hid (endOf_out (n := n) (l := l) (a := a) (Or.inl g1))
  clear h h2 ha
  go_enter Try.func79, Try.ntmps79
  go_wp2
  go_ret2
  exact ⟨by rw [HE.out]; rfl, Below.x0⟩
 ·have e1 : (s < 0) = False := by simp; omega
  by_cases g2 : (n : Int) ≤ s
  ·have HE := Lib.hid (endOf_out (n := n) (l := l) (a := a) (Or.inr g2))
   have e2 : s ≥ (n : Int) := g2
   clear h h2 ha g1
   go_enter Try.func79, Try.ntmps79
   go_wp2
   go_ret2
   exact ⟨by rw [HE.out]; rfl, Below.x0⟩
  ·have hE := endOf_in (n := n) (l := l) (a := a) (s := s) (by omega)
   have e2 : (s ≥ (n : Int)) = False := by simp; omega
   obtain ⟨kl, hkl⟩ := at3_keyOf (x := (s, a)) (by dsimp only; omega) ha
   have hlk := fun q => (h2.map.drewN q).lookup_ok at3_keyed Try.underlying112 zero_int atV_inj hkl
   obtain ⟨t0, ht0⟩ : ∃ t0, Gal.look l (s, a) = t0 := ⟨_, rfl⟩
   obtain ⟨b0, hb0⟩ : ∃ b0, hasK l (s, a) = b0 := ⟨_, rfl⟩
   rw [ht0, hb0] at hE hlk
   have HE := Lib.hid hE
   unfold atV at hlk
   dsimp only at hlk
   clear h h2 ha g1 g2 hkl hE ht0 hb0
   go_enter Try.func79, Try.ntmps79
   go_wp2
   go_quiet (fail)
   go_wp2
   go_ret2
   exact ⟨by rw [HE.out]; rfl, Below.x0⟩
end Go.Proofs.Ytchngeagnlngaaa
end
