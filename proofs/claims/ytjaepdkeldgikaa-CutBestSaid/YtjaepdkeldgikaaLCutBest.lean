/- CutBest: no cut is better than the best one: the dearest stage is no dearer than that of any other cut, no cheaper than the dearest layer, nor than the share of all: the law returns true, and the input reads as it did. No condition. -/
import Derived.Test.YtjaepdkeldgikaaRows
import Derived.Test.YtjaepdkeldgikaaCut6
import Derived.Test.YtjaepdkeldgikaaOpenI
import Derived.Test.YtjaepdkeldgikaaSameI
set_option linter.unusedVariables false
set_option linter.unusedSimpArgs false
set_option linter.unusedSectionVars false
namespace Gal
theorem best_all {c : Nat → Int} {n s : Nat} (hc : ∀ i, 0 ≤ c i ∧ c i ≤ 1000000) (h1 : 1 ≤ s) (h2 : s ≤ n) (hn : n ≤ 12) :
    ∃ es, picks c n (lim c n s) s 0 = es ∧ es.length = s ∧ Chain n 0 es ∧ (lim c n s : Int) = dear (costsOf c 0 es) ∧ (costsOf c 0 es).sum ≤ (lim c n s : Int) * s ∧ (∀ i, i < n → c i ≤ (lim c n s : Int)) ∧ (∀ es', es'.length = s → Chain n 0 es' → (lim c n s : Int) ≤ dear (costsOf c 0 es')) ∧ (lim c n s : Int) ≤ 12000000 := by
  obtain ⟨r, rfl⟩ : ∃ r, s = r + 1 := ⟨s - 1, by omega⟩
  have hc0 : ∀ i, 0 ≤ c i := fun i => (hc i).1
  have hl := lim_is (c := c) hc0 h2
  obtain ⟨_, _, _, b4⟩ := best_is (c := c) hc0 h2
  obtain ⟨a1, a2, a3, a4, a5, a6⟩ := cut_best (c := c) hc0 h2
  rw [← hl] at a3 a4 a5 a6 b4
  refine ⟨_, b4, a1, a2, a3, ?_, a5, a6, ?_⟩
  · rw [costsOf_sum a2, Nat.sub_zero]
    push_cast
    exact a4
  · have h3 := lim_le (c := c) (n := n) (s := r + 1)
    have h4 := sg_bd hc 0 n
    omega
theorem costsOf_bd {c : Nat → Int} (hc : ∀ i, 0 ≤ c i ∧ c i ≤ 1000000) {n : Nat} (hn : n ≤ 12) {es : List Nat} (h : Chain n 0 es) : ∀ j, 0 ≤ ix (costsOf c 0 es) j ∧ ix (costsOf c 0 es) j ≤ 12000000 := fun j => by
  rcases Nat.lt_or_ge j es.length with h1 | h1
  · rw [costsOf_ix es 0 j h1]
    have h2 := sg_bd hc (cw 0 es j) (cw 0 es (j + 1) - cw 0 es j)
    have h3 := (chain_cw h).1 j h1
    omega
  · have : ix (costsOf c 0 es) j = 0 := by unfold ix; rw [List.getElem?_eq_none (by rw [costsOf_length]; exact h1)]; rfl
    omega
theorem take_next {l : List Int} {t : Nat} (h : t < l.length) : l.take (t + 1) = l.take t ++ [ix l t] := by
  rw [List.take_succ_eq_append_getElem h]
  unfold ix
  rw [List.getElem?_eq_getElem h]
  rfl
theorem dear_snoc (x : Int) : ∀ (l : List Int), dear (l ++ [x]) = max (dear l) (max x 0)
  | [] => by show max x 0 = max 0 (max x 0); omega
  | y :: l => by
    show max y (dear (l ++ [x])) = max (max y (dear l)) (max x 0)
    rw [dear_snoc x l]
    omega
theorem dear_next {l : List Int} {t : Nat} (h : t < l.length) (h0 : 0 ≤ ix l t) : dear (l.take (t + 1)) = if dear (l.take t) < ix l t then ix l t else dear (l.take t) := by
  rw [take_next h, dear_snoc]
  have := dear_nn (l.take t)
  split <;> omega
theorem sum_next {l : List Int} {t : Nat} (h : t < l.length) : (l.take (t + 1)).sum = (l.take t).sum + ix l t := by
  rw [take_next h, List.sum_append]
  simp
theorem sum_bd {l : List Int} (h : ∀ j, 0 ≤ ix l j ∧ ix l j ≤ 12000000) : ∀ {t : Nat}, t ≤ l.length → 0 ≤ (l.take t).sum ∧ (l.take t).sum ≤ 12000000 * t
  | 0, _ => by simp
  | t + 1, ht => by
    have h1 := sum_bd h (t := t) (by omega)
    have h2 := h t
    rw [sum_next (by omega)]
    push_cast
    omega
theorem dear_bd {l : List Int} (h : ∀ j, 0 ≤ ix l j ∧ ix l j ≤ 12000000) : ∀ {t : Nat}, t ≤ l.length → 0 ≤ dear (l.take t) ∧ dear (l.take t) ≤ 12000000
  | 0, _ => by simp [dear]
  | t + 1, ht => by
    have h1 := dear_bd h (t := t) (by omega)
    have h2 := h t
    rw [dear_next (by omega) h2.1]
    split <;> omega
theorem prod_bd {m s : Nat} (h1 : (m : Int) ≤ 12000000) (h2 : s ≤ 6) : 0 ≤ (m : Int) * (s : Int) ∧ (m : Int) * (s : Int) ≤ 72000000 := by
  have h3 : m * s ≤ 12000000 * 6 := Nat.mul_le_mul (by omega) h2
  have h4 : ((m * s : Nat) : Int) = (m : Int) * (s : Int) := Int.natCast_mul _ _
  omega
theorem fact_best : lim (ix [4, 1, 1, 6]) 4 2 = 6 ∧ picks (ix [4, 1, 1, 6]) 4 6 2 0 = [3, 4] := by
  have hc : ∀ i, 0 ≤ ix [4, 1, 1, 6] i := fun i => (costs_bd (xs := [4, 1, 1, 6]) (by decide) i).1
  have hl := lim_is (c := ix [4, 1, 1, 6]) (n := 4) (s := 1) hc (by omega)
  obtain ⟨_, _, _, b4⟩ := best_is (c := ix [4, 1, 1, 6]) (n := 4) (s := 1) hc (by omega)
  have h2 : (refBest (ix [4, 1, 1, 6]) 4 1 0 0) = ([3, 4], 6) := by decide +kernel
  rw [h2] at hl b4
  have hl' : ((lim (ix [4, 1, 1, 6]) 4 2 : Nat) : Int) = 6 := hl
  exact ⟨by omega, b4⟩
end Gal
namespace Go.Proofs.Ytjaepdkeldgikaa.lawCutBest
open Go.ChangeShapes Go.WideShapes Go.ChangeAt Go.RowKit Gal
set_option maxRecDepth 100000
set_option maxHeartbeats 4000000
theorem best_ok' (xs : List Int) (s : Nat) (S : Int) (hS : S = s) (a : Option Addr) (n k b o : Nat) (w : World) (h : IntsAt w a n k b o xs) (hx : costsFault xs = 0) (hn : 1 ≤ n ∧ n ≤ 12) (hs : 1 ≤ s ∧ s ≤ 6) (hsn : s ≤ n) (m : Nat) (hm : lim (ix xs) n s = m) (es : List Nat) (he : picks (ix xs) n m s 0 = es) :
    Calls Try.prog 15 #[.slice a n k, .int .i64 S] w fun e w' => ∃ a' k' b', e = .returned (.tuple #[.slice a' s k', .int .i64 m, .nilIface]) ∧ w.heap.size ≤ b' ∧ IntsAt w' a' s k' b' 0 (ints es) ∧ Below w.heap.size w w' := by
  subst hS hm he
  exact (cutBest_ok xs s a n k b o w h hx hn hs hsn).mono fun e w' ⟨v, a', k', b', h1, h2, h3⟩ => ⟨a', k', b', by rw [h1, h2], h3⟩
theorem ints4 {w : World} {b : Nat} {x y z u : Int} {t : TypeId} (h : Box w b [.int .i64 x, .int .i64 y, .int .i64 z, .int .i64 u] t) : IntsAt w (some ⟨b, 0, none⟩) 4 4 b 0 [x, y, z, u] := by
  refine ⟨rfl, Nat.le_refl _, by unfold maxLen; omega, fun _ => rfl, fun _ => h.lt, fun i hi => ?_⟩
  rcases (by omega : i = 0 ∨ i = 1 ∨ i = 2 ∨ i = 3) with rfl | rfl | rfl | rfl
  all_goals exact (h.cell _).trans rfl
theorem ints2 {w : World} {b : Nat} {x y : Int} {t : TypeId} (h : Box w b [.int .i64 x, .int .i64 y] t) : IntsAt w (some ⟨b, 0, none⟩) 2 2 b 0 [x, y] := by
  refine ⟨rfl, Nat.le_refl _, by unfold maxLen; omega, fun _ => rfl, fun _ => h.lt, fun i hi => ?_⟩
  rcases (by omega : i = 0 ∨ i = 1) with rfl | rfl
  · exact (h.cell _).trans rfl
  · exact (h.cell _).trans rfl
theorem walk (xs : List Int) (va : Value) (st : Int) (ys : List Int) (vb : Value) (w : World) (ha : IntsV w va xs) (hst : (Lit.int IntKind.i64 st).wf = true) (hb : IntsV w vb ys) :
    Calls Try.prog 5 #[va, .int .i64 st, vb] w fun e w' => e = .returned (.bool true) ∧ Below w.heap.size w w' := by
  obtain ⟨a, n, k, b, o, rfl, h⟩ := ha
  obtain ⟨a', n', k', b', o', rfl, h'⟩ := hb
  have hf1 := fact_best.1
  have hf2 := fact_best.2
  have HF1 := Lib.hid hf1
  have HF2 := Lib.hid hf2
  clear hf1 hf2
  go_enter Try.func5, Try.ntmps5
  go_wp2_with fail
  refine (best_ok' [4, 1, 1, 6] 2 2 rfl _ 4 4 w.heap.size 0 _ (ints4 (Box.new _ _ 3)) (by decide) (by omega) (by omega) (by omega) 6 HF1.out [3, 4] HF2.out).mono ?_
  rintro e w1 ⟨a1, k1, b1, rfl, hq1, hi1, hb1⟩
  go_wp2_with fail
  refine (ints_any _ _ _ _ _ _ _ _ _ _ (ints [3, 4]) [3, 4] _ (hi1.alloc _) (ints2 (Box.new _ _ 3))).mono ?_
  rintro e w2 ⟨rfl, m2, rfl⟩
  rw [show decide (ints [3, 4] = [3, 4]) = true from by decide]
  obtain ⟨w2, hw2, hb2⟩ : ∃ w2, (w1.alloc (.cells #[.int .i64 3, .int .i64 4] 3)).drewN m2 = w2 ∧ Below w.heap.size w w2 := ⟨_, rfl, (by repeat (first | fail | (with_reducible exact Below.refl _ _) | (with_reducible refine Below.al ?_ _) | (with_reducible refine Below.drN ?_ _) | (with_reducible refine Below.drew ?_) | (with_reducible refine Below.st ?_ ?_ _; rotate_left 1; (first | (dsimp only; omega) | omega | (simp; omega) | simp)) | (with_reducible refine Below.go ?_ hb1) | exact Below.refl _ _))⟩
  rw [hw2]
  clear hw2 hi1 hq1 hb1
  replace h := h.keep hb2
  replace h' := h'.keep hb2
  have hl := h.len
  by_cases hf : bestFault xs st = 0
  · obtain ⟨f1, f2, f3, f4⟩ : (1 ≤ st ∧ st ≤ 6) ∧ (1 ≤ n ∧ n ≤ 12) ∧ costsFault xs = 0 ∧ st ≤ n := by
      unfold bestFault at hf
      rw [hl] at hf
      by_cases g1 : (st < 1 ∨ 6 < st) ∨ (n < 1 ∨ 12 < n)
      · rw [if_pos g1] at hf; exact absurd hf (by decide)
      · rw [if_neg g1] at hf
        by_cases g2 : costsFault xs = 0
        · rw [if_neg (by simp [g2])] at hf
          by_cases g3 : (n : Int) < st
          · rw [if_pos g3] at hf; exact absurd hf (by decide)
          · exact ⟨by omega, by omega, g2, by omega⟩
        · rw [if_pos g2] at hf
          exact absurd hf g2
    obtain ⟨s, rfl⟩ : ∃ s : Nat, st = s := ⟨st.toNat, by omega⟩
    have hcb := costs_bd f3
    obtain ⟨es, e1, e2, e3, e4, e5, e6, e7, e8⟩ := best_all (c := ix xs) (n := n) (s := s) hcb (by omega) (by omega) f2.2
    obtain ⟨m, hm⟩ : ∃ m, lim (ix xs) n s = m := ⟨_, rfl⟩
    rw [hm] at e1 e4 e5 e6 e7 e8
    have hends : endsFault (ints es) n = 0 := chain_ends e3 (by omega) (by omega) f2
    have hcs := costs_chain (c := ix xs) e3
    have hlb := costsOf_bd hcb f2.2 e3
    have hll : (costsOf (ix xs) 0 es).length = s := by rw [costsOf_length, e2]
    obtain ⟨l, hlq⟩ : ∃ l, costsOf (ix xs) 0 es = l := ⟨_, rfl⟩
    rw [hlq] at e4 e5 hcs hlb hll
    rw [e2] at hcs
    have H1 := Lib.hid e1
    have HM := Lib.hid hm
    have HF3 := Lib.hid f3
    have H4 := Lib.hid e4
    have H5 := Lib.hid e5
    have H6 := Lib.hid e6
    have H7 := Lib.hid e7
    have HE := Lib.hid hends
    have HCS := Lib.hid hcs
    have HLB := Lib.hid hlb
    have HLL := Lib.hid hll
    have HCB := Lib.hid hcb
    obtain ⟨s1, s2⟩ : 1 ≤ s ∧ s ≤ 6 := by omega
    obtain ⟨n1, n2⟩ := f2
    have hsn : s ≤ n := by omega
    have E2 := Lib.hid e2
    obtain ⟨p1, p2⟩ := prod_bd e8 s2
    clear e1 hm f3 e4 e5 e6 e7 hends hcs hlb hll hcb f1 f4 hf hl hlq e2 e3 E2
    go_wp2_with fail
    refine (best_ok' xs s s rfl _ n k b o _ h HF3.out ⟨n1, n2⟩ ⟨s1, s2⟩ hsn m HM.out es H1.out).mono ?_
    rintro e w3 ⟨a1, k1, b1, rfl, hq1, hi1, hb3⟩
    replace h := h.keep hb3
    replace h' := h'.keep hb3
    go_wp2_with fail
    refine (cutCost_ok xs (ints es) _ _ n s k k1 b b1 o 0 _ h hi1 HF3.out HE.out).mono ?_
    rintro e w4 ⟨q, rfl, hq4, Bq, hb4⟩
    rw [HCS.out] at Bq
    replace h := h.keep hb4
    replace h' := h'.keep hb4
    replace hb2 : Below w.heap.size w w4 := (by repeat (first | fail | (with_reducible exact Below.refl _ _) | (with_reducible exact hb2) | (with_reducible refine Below.al ?_ _) | (with_reducible refine Below.drN ?_ _) | (with_reducible refine Below.drew ?_) | (with_reducible refine Below.st ?_ ?_ _; rotate_left 1; (first | (dsimp only; omega) | omega | (simp; omega) | simp)) | (with_reducible refine Below.go ?_ hb4) | (with_reducible refine Below.go ?_ hb3) | exact Below.refl _ _ | exact hb2))
    clear hi1 hq1 hb3 hb4 hq4
    have hss : ((s : Int) != (s : Int)) = false := by simp
    go_wp2
    go_loop [14, 15, 16] (fun u v i => ∃ t : Nat, t ≤ s ∧ i = .int .i64 t ∧ u = .int .i64 (l.take t).sum ∧ v = .int .i64 (dear (l.take t))) (fun _ _ i => s - (intOf i).toNat)
    case atStart => exact ⟨0, Nat.zero_le _, rfl, rfl, rfl⟩
    case round =>
      obtain ⟨t, ht, rfl, rfl, rfl⟩ := hrel
      obtain ⟨hsb1, hsb2⟩ := sum_bd HLB.out (t := t) (by rw [HLL.out]; exact ht)
      obtain ⟨hdb1, hdb2⟩ := dear_bd HLB.out (t := t) (by rw [HLL.out]; exact ht)
      by_cases hlt : t < s
      · have hc := Bq.icell (k := t) (by rw [HLL.out]; exact hlt)
        obtain ⟨hx1, hx2⟩ := HLB.out t
        obtain ⟨u0, hu0⟩ : ∃ u0, (l.take t).sum = u0 := ⟨_, rfl⟩
        rw [hu0] at hsb1 hsb2 ⊢
        have HU := Lib.hid hu0
        clear hu0
        obtain ⟨c0, hc0⟩ : ∃ c0, ix l t = c0 := ⟨_, rfl⟩
        obtain ⟨d0, hd0⟩ : ∃ d0, dear (l.take t) = d0 := ⟨_, rfl⟩
        rw [hc0] at hc hx1 hx2
        rw [hd0] at hdb1 hdb2 ⊢
        have HC := Lib.hid hc0
        have HD := Lib.hid hd0
        clear hc0 hd0
        by_cases hgt : d0 < c0
        · have HG := Lib.hid hgt
          have g1 : c0 > d0 := hgt
          clear hgt
          go_wp2
          go_round
          case rel => exact ⟨t + 1, by omega, by go_num, by rw [sum_next (by rw [HLL.out]; exact hlt), HC.out, HU.out], by rw [dear_next (by rw [HLL.out]; exact hlt) (by rw [HC.out]; exact hx1), HC.out, HD.out, if_pos HG.out]⟩
          case measure => simp [intOf]; omega
        · have HG := Lib.hid hgt
          have g1 : (c0 > d0) = False := by simp; omega
          clear hgt
          go_wp2
          go_round
          case rel => exact ⟨t + 1, by omega, by go_num, by rw [sum_next (by rw [HLL.out]; exact hlt), HC.out, HU.out], by rw [dear_next (by rw [HLL.out]; exact hlt) (by rw [HC.out]; exact hx1), HC.out, HD.out, if_neg HG.out]⟩
          case measure => simp [intOf]; omega
      · obtain rfl : s = t := by omega
        have htk : l.take s = l := List.take_of_length_le (by rw [HLL.out]; exact Nat.le_refl _)
        rw [htk] at hsb1 hsb2 hdb1 hdb2 ⊢
        have hd := H4.out
        rw [← hd]
        obtain ⟨u0, hu0⟩ : ∃ u0, l.sum = u0 := ⟨_, rfl⟩
        have h5 := H5.out
        rw [hu0] at hsb1 hsb2 h5 ⊢
        have g1 : ((m : Int) != (m : Int)) = false := by simp
        have g2 : ((m : Int) * (s : Int) < u0) = False := by simp; omega
        clear htk hd hu0 hdb1 hdb2 h5
        go_wp2
        go_loop [17] (fun i => ∃ t : Nat, t ≤ n ∧ i = .int .i64 t) (fun i => n - (intOf i).toNat)
        case atStart => exact ⟨0, Nat.zero_le _, rfl⟩
        case round =>
          obtain ⟨t, ht, rfl⟩ := hrel
          by_cases hlt : t < n
          · obtain rfl := h.ptr (by omega)
            have hc := h.cell t hlt
            have h6 := H6.out t hlt
            obtain ⟨c0, hc0⟩ : ∃ c0, ix xs t = c0 := ⟨_, rfl⟩
            rw [hc0] at hc h6
            have g3 : (c0 > (m : Int)) = False := by simp; omega
            clear hc0 h6
            go_wp2
            go_round
            case rel => exact ⟨t + 1, by omega, by go_num⟩
            case measure => simp [intOf]; omega
          · obtain rfl : n = t := by omega
            have hl' := h'.len
            have hl := h.len
            by_cases hg : costFault xs ys = 0
            · have hy : endsFault ys n = 0 := by
                unfold costFault at hg
                rw [if_neg (by simp [HF3.out]), hl] at hg
                exact hg
              obtain ⟨es', y1, y2, y3, y4⟩ := ends_chain hy
              have HY := Lib.hid hy
              have hlen' : es'.length = n' := by rw [← hl', y1, ints_length]
              have hcs' := costs_chain (c := ix xs) y2
              have hlb' := costsOf_bd HCB.out n2 y2
              have hll' : (costsOf (ix xs) 0 es').length = n' := by rw [costsOf_length, hlen']
              have h7 : n' = s → (m : Int) ≤ dear (costsOf (ix xs) 0 es') := fun e => H7.out es' (by rw [hlen', e]) y2
              obtain ⟨l', hlq'⟩ : ∃ l', costsOf (ix xs) 0 es' = l' := ⟨_, rfl⟩
              rw [hlq'] at hcs' hlb' hll' h7
              rw [hlen', ← y1] at hcs'
              have HCS' := Lib.hid hcs'
              have HLB' := Lib.hid hlb'
              have HLL' := Lib.hid hll'
              have H7' := Lib.hid h7
              rw [hlen'] at y4
              clear hg hy y1 y2 y3 hlen' hcs' hlb' hll' h7 hlq' hl hl'
              go_wp2_with fail
              refine (cutCost_ok xs ys _ _ n n' k k' b b' o o' _ h h' HF3.out HY.out).mono ?_
              rintro e w5 ⟨q', rfl, hq5, Bq', hb5⟩
              rw [HCS'.out] at Bq'
              replace hb2 : Below w.heap.size w w5 := (by repeat (first | fail | (with_reducible exact Below.refl _ _) | (with_reducible exact hb2) | (with_reducible refine Below.al ?_ _) | (with_reducible refine Below.drN ?_ _) | (with_reducible refine Below.drew ?_) | (with_reducible refine Below.st ?_ ?_ _; rotate_left 1; (first | (dsimp only; omega) | omega | (simp; omega) | simp)) | (with_reducible refine Below.go ?_ hb5) | exact Below.refl _ _ | exact hb2))
              clear hq5 hb5
              by_cases hns : n' = s
              · subst hns
                go_wp2
                go_loop [19, 20] (fun v i => ∃ t : Nat, t ≤ n' ∧ i = .int .i64 t ∧ v = .int .i64 (dear (l'.take t))) (fun _ i => n' - (intOf i).toNat)
                case atStart => exact ⟨0, Nat.zero_le _, rfl, rfl⟩
                case round =>
                  clear Bq HLB HLL
                  obtain ⟨t, ht, rfl, rfl⟩ := hrel
                  obtain ⟨hdb1, hdb2⟩ := dear_bd HLB'.out (t := t) (by rw [HLL'.out]; exact ht)
                  by_cases hlt : t < n'
                  · have hc := Bq'.icell (k := t) (by rw [HLL'.out]; exact hlt)
                    obtain ⟨hx1, hx2⟩ := HLB'.out t
                    obtain ⟨c0, hc0⟩ : ∃ c0, ix l' t = c0 := ⟨_, rfl⟩
                    obtain ⟨d0, hd0⟩ : ∃ d0, dear (l'.take t) = d0 := ⟨_, rfl⟩
                    rw [hc0] at hc hx1 hx2
                    rw [hd0] at hdb1 hdb2 ⊢
                    have HC := Lib.hid hc0
                    have HD := Lib.hid hd0
                    clear hc0 hd0
                    by_cases hgt : d0 < c0
                    · have HG := Lib.hid hgt
                      have g1 : c0 > d0 := hgt
                      clear hgt
                      go_wp2
                      go_round
                      case rel => exact ⟨t + 1, by omega, by go_num, by rw [dear_next (by rw [HLL'.out]; exact hlt) (by rw [HC.out]; exact hx1), HC.out, HD.out, if_pos HG.out]⟩
                      case measure => simp [intOf]; omega
                    · have HG := Lib.hid hgt
                      have g1 : (c0 > d0) = False := by simp; omega
                      clear hgt
                      go_wp2
                      go_round
                      case rel => exact ⟨t + 1, by omega, by go_num, by rw [dear_next (by rw [HLL'.out]; exact hlt) (by rw [HC.out]; exact hx1), HC.out, HD.out, if_neg HG.out]⟩
                      case measure => simp [intOf]; omega
                  · obtain rfl : n' = t := by omega
                    have htk : l'.take n' = l' := List.take_of_length_le (by rw [HLL'.out]; exact Nat.le_refl _)
                    rw [htk] at hdb1 hdb2 ⊢
                    have h8 := H7'.out (by first | rfl | trivial)
                    obtain ⟨d0, hd0⟩ : ∃ d0, dear l' = d0 := ⟨_, rfl⟩
                    rw [hd0] at hdb1 hdb2 h8 ⊢
                    clear htk hd0
                    have g9 : (d0 ≥ (m : Int)) = True := by simp; omega
                    go_wp2
                    go_ret
                    exact ⟨rfl, hb2⟩
              · have g4 : ((n' : Int) != (s : Int)) = true := by simp; omega
                clear hns
                go_wp2
                go_ret
                exact ⟨rfl, hb2⟩
            · have HG := Lib.hid hg
              clear hg hl hl'
              go_wp2_with fail
              refine (cutCost_bad xs ys _ _ n n' k k' b b' o o' _ h h' HG.out).mono ?_
              rintro e w5 ⟨rfl, rfl⟩
              rw [errV_err HG.out]
              go_wp2
              go_ret
              exact ⟨rfl, hb2⟩
  · have HF := Lib.hid hf
    clear hf hl
    go_wp2_with fail
    refine (cutBest_bad xs st _ n k b o _ h HF.out).mono ?_
    rintro e w3 ⟨rfl, hb3⟩
    rw [errV_err HF.out]
    go_wp2
    go_ret
    exact ⟨rfl, (by repeat (first | fail | (with_reducible exact Below.refl _ _) | (with_reducible exact hb2) | (with_reducible refine Below.al ?_ _) | (with_reducible refine Below.drN ?_ _) | (with_reducible refine Below.drew ?_) | (with_reducible refine Below.st ?_ ?_ _; rotate_left 1; (first | (dsimp only; omega) | omega | (simp; omega) | simp)) | (with_reducible refine Below.go ?_ hb3) | exact Below.refl _ _ | exact hb2))⟩

theorem own : ownKnob Try.prog.godebug = none := by kernel_rfl
theorem laidOut : laidOutB Try.prog = true := by kernel_rfl
set_option maxRecDepth 100000 in
theorem lifted (os : Os) (started : os.Started) (H : Type) (enc : TypeId × Value → H) :
    ReturnsInHanded {} Try.checked os 5 .any (Rows.cutBestSpec.pre6 enc Try.prog Try.f5 Rows.cutBestRow.domain false) (Rows.cutBestSpec.post enc Try.prog Try.f5 false true false false) := by
  refine returnsInHanded_of_change (C := Try.checked) own started (by kernel_rfl) Try.func5
    (ChangeSpec.witness6 (enc := enc) (C := Try.checked) false ⟨#[], #[.slice none 0 0, .int .i64 0, .slice none 0 0], []⟩ 8 (by kernel_rfl) (by kernel_rfl) (by kernel_rfl) (by kernel_rfl)) ?_
  intro W base args ds gs before hval0 hW hcnd hsz
  have hval : ∀ (j : Nat) t v, Try.f5.params[j]? = some t → args[j]? = some v → Value.okWide Try.prog W .any base t v := hval0
  have hW' := hW
  obtain ⟨p, q, hA0, hV, rfl, hfz, hnd⟩ := hW
  have hA : DataW.TrodAll enc Try.prog W 0 (fun _ => true) true Try.f5.params.toList args.toList ds p := hA0
  rw [Try.params5] at hA hval
  obtain ⟨v0, vs0, d0, ds0, p0, q0, hargs, rfl, rfl, h0, r0⟩ := trodAll_cons hA
  obtain ⟨v1, vs1, d1, ds1, p1, q1, rfl, rfl, rfl, h1, r1⟩ := trodAll_cons r0
  obtain ⟨v2, vs2, d2, ds2, p2, q2, rfl, rfl, rfl, h2, r2⟩ := trodAll_cons r1
  obtain ⟨rfl, rfl, rfl⟩ := trodAll_nil r2
  obtain rfl : args = #[v0, v1, v2] := by cases args; simp_all
  obtain ⟨rfl, rfl⟩ := trodVars_none hV
  have k0 := h0
  have lt0 : ∀ x ∈ p0, x.block < W.heap.size := by obtain ⟨m, hm⟩ := k0; exact DataW.trod_lt m _ _ _ hm
  have k1 := h1
  have lt1 : ∀ x ∈ p1, x.block < W.heap.size := by obtain ⟨m, hm⟩ := k1; exact DataW.trod_lt m _ _ _ hm
  have k2 := h2
  have lt2 : ∀ x ∈ p2, x.block < W.heap.size := by obtain ⟨m, hm⟩ := k2; exact DataW.trod_lt m _ _ _ hm
  obtain ⟨a0, w0⟩ := open_lint (hval 0 37 v0 rfl rfl) h0
  obtain ⟨a1, rfl, rfl, rfl, w1⟩ := open_int Try.underlying3 (hval 1 3 v1 rfl rfl) h1
  obtain ⟨a2, w2⟩ := open_lint (hval 2 37 v2 rfl rfl) h2
  clear hA0 hval0
  refine (walk a0 v0 a1 a2 v2 W w0 w1 w2).mono fun e W' ⟨he, bel⟩ => ?_
  subst he
  exact ⟨_, rfl, _, _, _, [], _, [], hW', trodAll_mk1 (shut_bool Try.underlying4 _), (trodAll_cons_mk (Below.trod laidOut (by kernel_rfl) (of_decide_eq_true (by kernel_rfl)) k0 bel lt0) (trodAll_cons_mk (Below.trod laidOut (by kernel_rfl) (of_decide_eq_true (by kernel_rfl)) k1 bel lt1) (trodAll_cons_mk (Below.trod laidOut (by kernel_rfl) (of_decide_eq_true (by kernel_rfl)) k2 bel lt2) trodAll_mk0))), rfl, bel.frame _, fun h => by cases h⟩

theorem proved : Rows.CutBestSaid :=
  OpenClaim.holds_of_wide 5 Try.f5 rfl rfl rfl rfl rfl rfl rfl ⟨rfl, rfl, rfl, rfl, rfl⟩ rfl rfl rfl rfl rfl (by kernel_rfl) Try.func5 (by kernel_rfl)
    (of_decide_eq_true (by kernel_rfl)) (by unfold Func.isWrapper; first | (rw [if_pos (by decide +kernel)]; kernel_rfl) | (rw [if_neg (by decide +kernel)]; exact ⟨rfl, rfl⟩))
    (fun os started H enc _ => lifted os started H enc)
#print axioms proved

end Go.Proofs.Ytjaepdkeldgikaa.lawCutBest
