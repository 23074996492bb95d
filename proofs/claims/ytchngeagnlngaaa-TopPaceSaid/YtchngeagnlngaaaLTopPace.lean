/- TopPace: a better cut is no slower at its dearest stage: by the best cut, waves and turns are no shorter than its dearest stage needs, and no longer than if all stages were as dear: the law returns true, and the input reads as it did. No condition. -/
import Derived.Test.YtchngeagnlngaaaRows
import Derived.Test.YtchngeagnlngaaaJ01
import Derived.Test.YtchngeagnlngaaaJ36
import Derived.Test.YtchngeagnlngaaaJ41
import Derived.Test.YtchngeagnlngaaaJ51
import Derived.Test.YtchngeagnlngaaaJ52
import Derived.Deep.DeepHandedRow
import Derived.BigQuiet
set_option linter.unusedVariables false
set_option linter.unusedSimpArgs false
set_option linter.unusedSectionVars false
namespace Gal
theorem dear_upto {l : List Int} : ∀ i, i < l.length → ix l i ≤ dear l := by
 induction l with
 | nil => intro i hi; exact absurd hi (Nat.not_lt_zero _)
 | cons x l ih =>
  intro i hi
  cases i with
  | zero => show x ≤ max x (dear l); omega
  | succ i =>
   have h1 := ih i (by simpa using hi)
   have h2 : ix (x :: l) (i + 1) = ix l i := by simp [ix]
   rw [h2]
   show ix l i ≤ max x (dear l)
   omega
theorem dear_mem {l : List Int} (h : 1 ≤ l.length) (hp : ∀ i, i < l.length → 1 ≤ ix l i) : ∃ i, i < l.length ∧ ix l i = dear l := by
 induction l with
 | nil => exact absurd h (by simp)
 | cons x l ih =>
  have hx : 1 ≤ x := hp 0 (by simp)
  by_cases h0 : l = []
  ·subst h0
   exact ⟨0, by simp, by show x = max x 0; omega⟩
  ·have hl : 1 ≤ l.length := by cases l with
    | nil => exact absurd rfl h0
    | cons y l => simp
   obtain ⟨i, h1, h2⟩ := ih hl (fun i hi => by have := hp (i + 1) (by simpa using hi); simpa [ix] using this)
   by_cases hm : dear l ≤ x
   ·exact ⟨0, by simp, by show x = max x (dear l); omega⟩
   ·refine ⟨i + 1, by simpa using h1, ?_⟩
    have h3 : ix (x :: l) (i + 1) = ix l i := by simp [ix]
    rw [h3, h2]
    show dear l = max x (dear l)
    omega
end Gal
namespace Go.Proofs.Ytchngeagnlngaaa.lawTopPace
open Go.ChangeShapes Go.WideShapes Go.ChangeAt Go.RowKit Gal
set_option maxRecDepth 100000
set_option maxHeartbeats 8000000
theorem walk (xs : List Int) (va : Value) (st M : Int) (w : World) (ha : IntsV w va xs) (hst : (Lit.int IntKind.i64 st).wf = true) (hM : (Lit.int IntKind.i64 M).wf = true) :
  Calls Try.prog 4 #[va, .int .i64 st, .int .i64 M] w fun e w' => e = .returned (.bool true) ∧ Below w.heap.size w w' := by
 obtain ⟨i0, hi, hz0, hz1, hz2⟩ := info_parts info_int'
 obtain ⟨a, n, k, b, o, rfl, h⟩ := ha
 have hl := h.len
 by_cases hf : bestFault xs st = 0
 ·obtain ⟨f1, f2, f3, f4⟩ : (1 ≤ st ∧ st ≤ 6) ∧ (1 ≤ n ∧ n ≤ 12) ∧ costsFault xs = 0 ∧ st ≤ n := by
   unfold bestFault at hf
   rw [hl] at hf
   by_cases g1 : (st < 1 ∨ 6 < st) ∨ (n < 1 ∨ 12 < n)
   ·rw [if_pos g1] at hf; exact absurd hf (by decide)
   ·rw [if_neg g1] at hf
    by_cases g2 : costsFault xs = 0
    ·rw [if_neg (by simp [g2])] at hf
     by_cases g3 : (n : Int) < st
     ·rw [if_pos g3] at hf; exact absurd hf (by decide)
     ·exact ⟨by omega, by omega, g2, by omega⟩
    ·rw [if_pos g2] at hf
     exact absurd hf g2
  obtain ⟨s, rfl⟩ : ∃ s : Nat, st = s := ⟨st.toNat, by omega⟩
  have hcb := costs_bd f3
  obtain ⟨es, e1, e2, e3, e4, _, _, _, e8⟩ := best_all (c := ix xs) (n := n) (s := s) hcb (by omega) (by omega) f2.2
  obtain ⟨m, hm⟩ : ∃ m, lim (ix xs) n s = m := ⟨_, rfl⟩
  rw [hm] at e4 e8
  have hends : endsFault (ints es) n = 0 := chain_ends e3 (by omega) (by omega) f2
  have hcs := costs_chain (c := ix xs) e3
  have hll : (costsOf (ix xs) 0 es).length = s := by rw [costsOf_length, e2]
  obtain ⟨l, hlq⟩ : ∃ l, costsOf (ix xs) 0 es = l := ⟨_, rfl⟩
  rw [hlq] at e4 hcs hll
  rw [e2] at hcs
  rw [hm] at e1
  have hBO := cutBest_ok xs s a n k b o
  rw [hm, e1] at hBO
  have HBO := Lib.hid hBO
  have HF3 := Lib.hid f3
  have H4 := Lib.hid e4
  have HE := Lib.hid hends
  have HCS := Lib.hid hcs
  have HLL := Lib.hid hll
  have HM8 := Lib.hid e8
  obtain ⟨s1, s2⟩ : 1 ≤ s ∧ s ≤ 6 := by omega
  obtain ⟨n1, n2⟩ := f2
  have hsn : s ≤ n := by omega
  have HB := Lib.hid hM
  clear e1 hm f3 e4 hends hcs hll f1 f4 hf hl hlq e2 e3 hBO hcb e8 hM hst
  go_enter Try.func4, Try.ntmps4
  go_wp2_with fail
  refine (topOne_any _).mono ?_
  rintro e w1 ⟨rfl, hb1⟩
  have hkw1 : Below w.heap.size w w1 := (Below.x1 hb1)
  replace h := h.keep hkw1
  have hsw1 := hkw1.size
  go_wp2_with fail
  refine (HBO.out _ h HF3.out ⟨n1, n2⟩ ⟨s1, s2⟩ hsn).mono ?_
  rintro e w2 ⟨v2, a1, k1, b1, rfl, rfl, hq1, hi1, hb2⟩
  replace h := h.keep hb2
  go_wp2_with fail
  refine (cutCost_ok xs (ints es) _ _ n s k k1 b b1 o 0 _ h hi1 HF3.out HE.out).mono ?_
  rintro e w3 ⟨q, rfl, hq3, Bq, hb3⟩
  rw [HCS.out] at Bq
  have hbw3 : Below w.heap.size w w3 := (by repeat (first | (with_reducible first | exact Below.refl _ _ | refine Below.al ?_ _ | refine Below.drN ?_ _ | refine Below.drew ?_ | refine Below.sx ?_ _ | refine Below.go ?_ hb3 | refine Below.go ?_ hb2 | refine Below.go ?_ hb1) | exact Below.refl _ _))
  clear h hi1 hb1 hb2 hb3 hq1
  by_cases hp : 1 ≤ M ∧ M ≤ 12
  ·obtain ⟨p, rfl⟩ : ∃ p : Nat, M = p := ⟨M.toNat, by omega⟩
   have hp' : 1 ≤ p ∧ p ≤ 12 := by omega
   clear hp
   obtain ⟨p1, p2⟩ := hp'
   go_wp2_with fail
   refine (planTurns_ok s p _ ⟨s1, s2⟩ ⟨p1, p2⟩).mono ?_
   rintro e w4 ⟨v, rfl, hpn, hb4⟩
   obtain ⟨a4, k4, b4, rfl, _, hr⟩ := planNew_row hpn
   replace Bq := Bq.keep hb4
   clear hpn
   go_wp2_with fail
   refine (planWave_ok s p _ ⟨s1, s2⟩ ⟨p1, p2⟩).mono ?_
   rintro e w5 ⟨v, rfl, hpn, hb5⟩
   obtain ⟨a5, k5, b5, rfl, _, hr'⟩ := planNew_row hpn
   replace Bq := Bq.keep hb5
   replace hr := hr.keep hb5
   have hbw5 : Below w.heap.size w w5 := (by repeat (first | (with_reducible first | exact Below.refl _ _ | exact hbw3 | refine Below.al ?_ _ | refine Below.drN ?_ _ | refine Below.drew ?_ | refine Below.sx ?_ _ | refine Below.go ?_ hb5 | refine Below.go ?_ hb4) | exact Below.refl _ _ | exact hbw3))
   clear hpn hb4 hb5
   go_wp2
   go_loopw [16, 17] (fun va i wr => ∃ (t : Nat) (v1 : Value), v1 = va ∧ t ≤ s ∧ i = .int .i64 t ∧ OwnRow Form.int 3 wr w5.heap.size noB v1 (l.take t) ∧ Hid (∀ j, j < t → 1 ≤ ix l j ∧ ix l j ≤ 1000000) ∧ Below w5.heap.size w5 wr) (fun _ i _ => s - (intOf i).toNat)
   case atStart => exact ⟨0, _, rfl, Nat.zero_le _, rfl, OwnRow.nil _ _ _ _ _, Lib.hid (fun j hj => absurd hj (Nat.not_lt_zero _)), Below.refl _ _⟩
   case round =>
    obtain ⟨t, va, rfl, ht, rfl, how, HQ, hbr⟩ := hrel
    by_cases hlt : t < s
    ·obtain ⟨c0, hc0⟩ : ∃ c0, ix l t = c0 := ⟨_, rfl⟩
     have hBr := Bq.keep hbr
     have hxc := hBr.icell (k := t) (by rw [HLL.out]; exact hlt)
     rw [hc0] at hxc
     have hqz := hBr.lt
     have HC0 := Lib.hid hc0
     have hti : (t : Int) < (s : Int) := by omega
     clear hc0
     by_cases g1 : c0 < 1
     ·have hbe : Below w.heap.size w wr := (Below.y1 hbr hbw5)
      go_wp2
      go_ret
      exact ⟨rfl, hbe⟩
     ·by_cases g2 : 1000000 < c0
      ·have hbe : Below w.heap.size w wr := (Below.y1 hbr hbw5)
       go_wp2
       go_ret
       exact ⟨rfl, hbe⟩
      ·have hTL : Hid ((l.take t).length = t) := Lib.hid (by rw [List.length_take, HLL.out]; omega)
       have hMin : Hid (min t l.length = t) := Lib.hid (by rw [HLL.out]; omega)
       have hTS : Hid (l.take t ++ [c0] = l.take (t + 1)) := Lib.hid (by
        have h1 : t < l.length := by rw [HLL.out]; exact hlt
        rw [List.take_succ_eq_append_getElem h1]
        congr 2
        have := HC0.out
        unfold ix at this
        rw [List.getElem?_eq_getElem h1] at this
        exact this.symm)
       go_wp2_with (at_builtin; (refine wpList_push rfl (.tmp 90) (.tmp 95) 26 rfl Form.int w5.heap.size noB 3 i0 (.int .i64 0) 8 Try.underlying26 hi hz0 hz1 hz2 rfl (by decide) va (l.take t) rfl (how.keep ((Below.refl _ _).alloc (Nat.le_refl _) _)) wr.heap.size 1 [.int .i64 c0] 3 c0 rfl (Box.new _ _ _) rfl (by rw [hTL.out]; omega) (by rw [hTL.out]; unfold maxLen; omega) (by have := hbr.size; simp; omega) _ rfl ?_))
       intro g cap w7 hown hgrow _ hgs
       simp only [hTS.out, hTL.out, hMin.out, List.length_take] at hown ⊢
       have hb7 : Below w5.heap.size w5 w7 := Below.grown (Below.al hbr _) hgrow (by have := hbr.size; simp; omega) (fun k hk => (how.base_le k hk).1)
       have HO := Lib.hid hown
       have HQ2 : Hid (∀ j, j < t + 1 → 1 ≤ ix l j ∧ ix l j ≤ 1000000) := Lib.hid (fun j hj => by
        by_cases e : j = t
        ·subst e; rw [HC0.out]; omega
        ·exact HQ.out j (by omega))
       clear hgrow hgs how hown hBr
       go_wp2
       go_roundw
       case rel => exact ⟨t + 1, _, rfl, by omega, by go_num, HO.out, HQ2, hb7⟩
       case measure => simp [intOf]; omega
    ·obtain rfl : s = t := by omega
     obtain ⟨a1, c1, b1, rfl, _, hr1⟩ := how.row (G := anyB) (fun _ _ _ => trivial) (fun _ _ => trivial)
     have hi1 := hr1.ints
     have hTL : l.take s = l := List.take_of_length_le (by rw [HLL.out]; exact Nat.le_refl _)
     rw [hTL] at hi1 ⊢
     rw [HLL.out] at hi1 ⊢
     have hbw : Below w.heap.size w wr := hbw5.trans (hbr.mono hbw5.size)
     replace hr := hr.keep hbr
     replace hr' := hr'.keep hbr
     have hcx : costOk l s := HQ.out
     have hl1 : (waveOf s p).length = s := aheadOf_length _ _ _
     have hl2 : (turnsOf s p).length = s := aheadOf_length _ _ _
     have hdl : ∀ r, r < s → 1 ≤ ix l r ∧ ix l r ≤ (m : Int) := fun r hr => ⟨(HQ.out r hr).1, by rw [H4.out]; exact dear_upto r (by rw [HLL.out]; exact hr)⟩
     have hdm : ∃ r, r < s ∧ ix l r = (m : Int) := by
      obtain ⟨r, q1, q2⟩ := dear_mem (l := l) (by rw [HLL.out]; exact s1) (fun r hr => (HQ.out r (by rw [HLL.out] at hr; exact hr)).1)
      exact ⟨r, by rw [HLL.out] at q1; exact q1, by rw [H4.out]; exact q2⟩
     have hpw := fun X hX => pace (X := X) (planOk_of (wave_ok ⟨s1, s2⟩ ⟨p1, p2⟩)) hl1 (wave_chk ⟨s1, s2⟩ ⟨p1, p2⟩) (wave_last s1 p1) hdl hdm hX
     have hpt := fun X hX => pace (X := X) (planOk_of (turns_ok ⟨s1, s2⟩ ⟨p1, p2⟩)) hl2 (turn_chk ⟨s1, s2⟩ ⟨p1, p2⟩) (turn_last s1 p1) hdl hdm hX
     obtain ⟨lo, hlo⟩ : ∃ lo, 2 * (p : Int) * (m : Int) = lo := ⟨_, rfl⟩
     obtain ⟨hg, hhg⟩ : ∃ hg, 2 * ((p : Int) + s - 1) * (m : Int) = hg := ⟨_, rfl⟩
     have hm12 := HM8.out
     have hlob : 0 ≤ lo ∧ lo ≤ 288000000 := by
      rw [← hlo]
      constructor
      ·exact Int.mul_nonneg (by omega) (by omega)
      ·have h1 : 2 * (p : Int) * (m : Int) ≤ 24 * (m : Int) := Int.mul_le_mul_of_nonneg_right (by omega) (by omega)
       omega
     have hhgb : 0 ≤ hg ∧ hg ≤ 408000000 := by
      rw [← hhg]
      constructor
      ·exact Int.mul_nonneg (by omega) (by omega)
      ·have h1 : 2 * ((p : Int) + s - 1) * (m : Int) ≤ 34 * (m : Int) := Int.mul_le_mul_of_nonneg_right (by omega) (by omega)
       omega
     rw [hlo, hhg] at hpw hpt
     have HPW := Lib.hid hpw
     have HPT := Lib.hid hpt
     have HL1 := Lib.hid hl1
     have HL2 := Lib.hid hl2
     have HCX := Lib.hid hcx
     clear hpw hpt hl1 hl2 hcx hdl hdm hTL hr1 how hbr Bq hbw5 hm12
     go_wp2_with fail
     refine (clkTimes_ok (turnsOf s p) l l p s _ a1 a1 k4 b4 0 c1 c1 b1 b1 0 0 anyB _ hr hi1 hi1 (turns_ok ⟨s1, s2⟩ ⟨p1, p2⟩) HCX.out HCX.out).mono ?_
     rintro e w7 ⟨a7, k7, b7, nx, X, q7, rfl, hrow, hinv, hfull, hb7⟩
     have hT := HPT.out X (hinv.are (by rw [HL2.out]; exact hfull))
     have hR : RowAt Form.plan w7 anyB a7 s k7 b7 0 (rowsOf s X) := hrow
     have HT := Lib.hid hT
     replace hr' := hr'.keep hb7
     replace hi1 := hi1.keep hb7
     clear hrow hinv hfull hT hr
     go_wp2_with fail
     refine (clkTimes_ok (waveOf s p) l l p s _ a1 a1 k5 b5 0 c1 c1 b1 b1 0 0 anyB _ hr' hi1 hi1 (wave_ok ⟨s1, s2⟩ ⟨p1, p2⟩) HCX.out HCX.out).mono ?_
     rintro e w8 ⟨a8, k8, b8, ny, Y, q8, rfl, hrow, hinv, hfull, hb8⟩
     have hS := HPW.out Y (hinv.are (by rw [HL1.out]; exact hfull))
     have hR' : RowAt Form.plan w8 anyB a8 s k8 b8 0 (rowsOf s Y) := hrow
     have HS := Lib.hid hS
     replace hR := hR.keep hb8
     clear hrow hinv hfull hS hr' hi1
     go_wp2_with fail
     refine (clkLong_any (rowsOf s X) _ s _ _ _ _ _ hR).mono ?_
     rintro e w9 ⟨rfl, hb9⟩
     replace hR' := hR'.keep hb9
     go_wp2_with fail
     refine (clkLong_any (rowsOf s Y) _ s _ _ _ _ _ hR').mono ?_
     rintro e w10 ⟨rfl, hb10⟩
     have hbe : Below w.heap.size w w10 := (by repeat (first | (with_reducible first | exact Below.refl _ _ | exact hbw | refine Below.al ?_ _ | refine Below.drN ?_ _ | refine Below.drew ?_ | refine Below.sx ?_ _ | refine Below.go ?_ hb10 | refine Below.go ?_ hb9 | refine Below.go ?_ hb8 | refine Below.go ?_ hb7) | exact Below.refl _ _ | exact hbw))
     obtain ⟨X1, hX1⟩ : ∃ X1, lngP 0 (rowsOf s X) = X1 := ⟨_, rfl⟩
     obtain ⟨Y1, hY1⟩ : ∃ Y1, lngP 0 (rowsOf s Y) = Y1 := ⟨_, rfl⟩
     have hT := HT.out
     have hS := HS.out
     rw [hX1] at hT ⊢
     rw [hY1] at hS ⊢
     obtain ⟨T1, T2⟩ := hT
     obtain ⟨S1, S2⟩ := hS
     clear hR hR' hX1 hY1 HT HS hb7 hb8 hb9 hb10
     go_wp2
     go_ret
     exact ⟨rfl, hbe⟩
  ·have HNB : Hid (¬ ((1 ≤ (s : Int) ∧ (s : Int) ≤ 6) ∧ 1 ≤ M ∧ M ≤ 12)) := Lib.hid (fun q => hp q.2)
   have HE1 : Hid (errV 1 = .iface 62 (.int .i64 1)) := Lib.hid (errV_err (by decide))
   by_cases hp1 : M < 1
   ·clear hp
    go_wp2_with fail
    refine (planTurns_bad s M _ HNB.out).mono ?_
    rintro e w4 ⟨rfl, hb4⟩
    rw [HE1.out]
    go_wp2_with fail
    refine (planWave_bad s M _ HNB.out).mono ?_
    rintro e w5 ⟨rfl, hb5⟩
    rw [HE1.out]
    have hbe : Below w.heap.size w w5 := (by repeat (first | (with_reducible first | exact Below.refl _ _ | exact hbw3 | refine Below.al ?_ _ | refine Below.drN ?_ _ | refine Below.drew ?_ | refine Below.sx ?_ _ | refine Below.go ?_ hb5 | refine Below.go ?_ hb4) | exact Below.refl _ _ | exact hbw3))
    go_wp2
    go_ret
    exact ⟨rfl, hbe⟩
   ·have hp2 : 12 < M := by omega
    clear hp
    go_wp2_with fail
    refine (planTurns_bad s M _ HNB.out).mono ?_
    rintro e w4 ⟨rfl, hb4⟩
    rw [HE1.out]
    go_wp2_with fail
    refine (planWave_bad s M _ HNB.out).mono ?_
    rintro e w5 ⟨rfl, hb5⟩
    rw [HE1.out]
    have hbe : Below w.heap.size w w5 := (by repeat (first | (with_reducible first | exact Below.refl _ _ | exact hbw3 | refine Below.al ?_ _ | refine Below.drN ?_ _ | refine Below.drew ?_ | refine Below.sx ?_ _ | refine Below.go ?_ hb5 | refine Below.go ?_ hb4) | exact Below.refl _ _ | exact hbw3))
    go_wp2
    go_ret
    exact ⟨rfl, hbe⟩
 ·have HF := Lib.hid hf
  have HEV : Hid (errV (bestFault xs st) = .iface 62 (.int .i64 (bestFault xs st))) := Lib.hid (errV_err hf)
  clear hf
  go_enter Try.func4, Try.ntmps4
  go_wp2_with fail
  refine (topOne_any _).mono ?_
  rintro e w1 ⟨rfl, hb1⟩
  have hkw1 : Below w.heap.size w w1 := (Below.x1 hb1)
  replace h := h.keep hkw1
  have hsw1 := hkw1.size
  go_wp2_with fail
  refine (cutBest_bad xs st _ _ _ _ _ _ h HF.out).mono ?_
  rw [HEV.out]
  rintro e w2 ⟨rfl, hb2⟩
  have hbe : Below w.heap.size w w2 := (Below.x2 hb2 hb1)
  go_wp2
  go_ret
  exact ⟨rfl, hbe⟩
theorem own : ownKnob Try.prog.godebug = none := by kernel_rfl
theorem laidOut : laidOutB Try.prog = true := by kernel_rfl
set_option maxRecDepth 100000 in
theorem lifted (os : Os) (started : os.Started) (H : Type) (enc : TypeId × Value → H) :
  ReturnsInHanded {} Try.checked os 4 .any (Rows.topPaceSpec.pre6 enc Try.prog Try.f4 Rows.topPaceRow.domain false) (Rows.topPaceSpec.post enc Try.prog Try.f4 false true false false) := by
 refine returnsInHanded_of_change (C := Try.checked) own started (by kernel_rfl) Try.func4
  (ChangeSpec.witness6 (enc := enc) (C := Try.checked) false ⟨#[], #[.slice none 0 0, .int .i64 0, .int .i64 0], []⟩ 8 (by kernel_rfl) (by kernel_rfl) (by kernel_rfl) (by kernel_rfl)) ?_
 intro W base args ds gs before hval0 hW hcnd hsz
 have hval : ∀ (j : Nat) t v, Try.f4.params[j]? = some t → args[j]? = some v → Value.okWide Try.prog W .any base t v := hval0
 have hW' := hW
 obtain ⟨p, q, hA0, hV, rfl, hfz, hnd⟩ := hW
 have hA : DataW.TrodAll enc Try.prog W 0 (fun _ => true) true Try.f4.params.toList args.toList ds p := hA0
 rw [Try.params4] at hA hval
 obtain ⟨v0, vs0, d0, ds0, p0, q0, hargs, rfl, rfl, h0, r0⟩ := trodAll_cons hA
 obtain ⟨v1, vs1, d1, ds1, p1, q1, rfl, rfl, rfl, h1, r1⟩ := trodAll_cons r0
 obtain ⟨v2, vs2, d2, ds2, p2, q2, rfl, rfl, rfl, h2, r2⟩ := trodAll_cons r1
 obtain ⟨rfl, rfl, rfl⟩ := trodAll_nil r2
 obtain rfl : args = #[v0, v1, v2] := by cases args; simp_all
 obtain ⟨rfl, rfl⟩ := trodVars_none hV
 have k0 := h0
 have lt0 : ∀ x ∈ p0, x.block < W.heap.size := by obtain ⟨m, hm⟩ := k0; exact DataW.trod_lt m _ _ _ hm
 have k1 := h1
 have lt1 : ∀ x ∈ p1, x.block < W.heap.size := by obtain ⟨m, hm⟩ := k1; exact DataW.trod_lt m _ _ _ hm
 have k2 := h2
 have lt2 : ∀ x ∈ p2, x.block < W.heap.size := by obtain ⟨m, hm⟩ := k2; exact DataW.trod_lt m _ _ _ hm
 obtain ⟨a0, w0⟩ := open_lint (hval 0 26 v0 rfl rfl) h0
 obtain ⟨a1, rfl, rfl, rfl, w1⟩ := open_int Try.underlying3 (hval 1 3 v1 rfl rfl) h1
 obtain ⟨a2, rfl, rfl, rfl, w2⟩ := open_int Try.underlying3 (hval 2 3 v2 rfl rfl) h2
 clear hA0 hval0
 refine (walk a0 v0 a1 a2 W w0 w1 w2).mono fun e W' ⟨he, bel⟩ => ?_
 subst he
 exact ⟨_, rfl, _, _, _, [], _, [], hW', trodAll_mk1 (shut_bool Try.underlying4 _), (trodAll_cons_mk (Below.trod laidOut (by kernel_rfl) (of_decide_eq_true (by kernel_rfl)) k0 bel lt0) (trodAll_cons_mk (Below.trod laidOut (by kernel_rfl) (of_decide_eq_true (by kernel_rfl)) k1 bel lt1) (trodAll_cons_mk (Below.trod laidOut (by kernel_rfl) (of_decide_eq_true (by kernel_rfl)) k2 bel lt2) trodAll_mk0))), rfl, bel.frame _, fun h => by cases h⟩
theorem proved : Rows.TopPaceSaid :=
 OpenClaim.holds_of_wide_leaving 4 Try.f4 rfl rfl rfl rfl rfl rfl rfl ⟨rfl, rfl, rfl, rfl, rfl⟩ rfl rfl rfl rfl rfl (by kernel_rfl) Try.func4 (by kernel_rfl)
  (of_decide_eq_true (by kernel_rfl)) (by unfold Func.isWrapper; first | (rw [if_pos (by decide +kernel)]; kernel_rfl) | (rw [if_neg (by decide +kernel)]; exact ⟨rfl, rfl⟩))
  (fun os started H enc _ => leaving_of_handed (lifted os started H enc))
#print axioms proved
end Go.Proofs.Ytchngeagnlngaaa.lawTopPace
