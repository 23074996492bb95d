/- Plain: what the program's parts cost is what the document's cost; contracts of package cut where something is wrong. -/
import Derived.Test.YtjaepdkeldgikaaDoorCut5
set_option linter.unusedVariables false
set_option linter.unusedSimpArgs false
set_option linter.unusedSectionVars false
namespace Gal
/-- where the j-th part begins -/
def cw (k : Nat) : List Nat → Nat → Nat
  | _, 0 => k
  | [], _ + 1 => 0
  | e :: es, j + 1 => cw e es j
section
variable {c : Nat → Int} {n : Nat}
theorem cw_is : ∀ (es : List Nat) (k j : Nat), cw k es (j + 1) = es[j]?.getD 0
  | [], k, j => by simp [cw]
  | e :: es, k, 0 => by simp [cw]
  | e :: es, k, j + 1 => by
    rw [cw, cw_is es e j]
    simp
theorem costsOf_ix : ∀ (es : List Nat) (k j : Nat), j < es.length → ix (costsOf c k es) j = sg c (cw k es j) (cw k es (j + 1) - cw k es j)
  | [], k, j, h => absurd h (Nat.not_lt_zero _)
  | e :: es, k, 0, h => by simp [costsOf, ix, cw]
  | e :: es, k, j + 1, h => by
    have := costsOf_ix es e j (by simpa using h)
    rw [show ix (costsOf c k (e :: es)) (j + 1) = ix (costsOf c e es) j by simp [ix, costsOf]]
    rw [this]
    rfl
theorem ints_ix (es : List Nat) (j : Nat) : ix (ints es) j = ((es[j]?.getD 0 : Nat) : Int) := by
  unfold ix ints
  rw [List.getElem?_map]
  cases es[j]? <;> rfl
theorem cutW_ints (es : List Nat) : ∀ j, cutW (ints es) j = cw 0 es j
  | 0 => by simp [cutW, wasAt, cw]
  | j + 1 => by
    unfold cutW
    show (ix (ints es) j).toNat = _
    rw [ints_ix, cw_is, Int.toNat_natCast]
theorem chain_cw : ∀ {es : List Nat} {k : Nat}, Chain n k es → (∀ j, j < es.length → cw k es j < cw k es (j + 1) ∧ cw k es (j + 1) ≤ n) ∧ cw k es es.length = n
  | [], k, h => ⟨fun j hj => absurd hj (Nat.not_lt_zero _), h⟩
  | e :: es, k, ⟨h1, h2, h3⟩ => by
    obtain ⟨a1, a2⟩ := chain_cw h3
    refine ⟨fun j hj => ?_, a2⟩
    cases j with
    | zero => cases es <;> exact ⟨h1, h2⟩
    | succ j => exact a1 j (by simpa using hj)
theorem cw_chain : ∀ {es : List Nat} {k : Nat}, (∀ j, j < es.length → cw k es j < cw k es (j + 1)) → cw k es es.length = n → Chain n k es
  | [], k, _, h => h
  | e :: es, k, h1, h2 => by
    have h3 : Chain n e es := cw_chain (fun j hj => h1 (j + 1) (by simpa using hj)) h2
    have h4 := h1 0 (by simp)
    have h5 : cw k (e :: es) 1 = e := by cases es <;> rfl
    rw [h5] at h4
    exact ⟨h4, chain_le h3, h3⟩
theorem costs_chain {es : List Nat} (h : Chain n 0 es) : upto (costAt c (ints es) n) es.length = costsOf c 0 es := by
  rw [← upto_self (xs := costsOf c 0 es), costsOf_length]
  refine upto_congr fun j hj => ?_
  obtain ⟨h1, _⟩ := chain_cw h
  rw [costsOf_ix es 0 j hj]
  unfold costAt
  rw [cutW_ints, cutW_ints, show min n (cw 0 es (j + 1)) = cw 0 es (j + 1) by have := (h1 j hj).2; omega]
theorem ends_chain {ys : List Int} (h : endsFault ys n = 0) : ∃ es : List Nat, ys = ints es ∧ Chain n 0 es ∧ 1 ≤ es.length ∧ es.length ≤ 6 := by
  obtain ⟨h0, h1, h2, h3⟩ : (1 ≤ n ∧ n ≤ 12) ∧ (1 ≤ ys.length ∧ ys.length ≤ 6) ∧ rises ys ys.length ∧ wasAt ys ys.length = n := by
    unfold endsFault at h
    by_cases g1 : (n : Int) < 1 ∨ 12 < (n : Int)
    · rw [if_pos g1] at h; exact absurd h (by decide)
    · rw [if_neg g1] at h
      by_cases g2 : ys.length = 0 ∨ 6 < ys.length
      · rw [if_pos g2] at h; exact absurd h (by decide)
      · rw [if_neg g2] at h
        by_cases g3 : rises ys ys.length ∧ wasAt ys ys.length = n
        · exact ⟨by omega, by omega, g3.1, g3.2⟩
        · rw [if_neg g3] at h; exact absurd h (by decide)
  have hint : ys = ints (ys.map Int.toNat) := by
    unfold ints
    rw [List.map_map]
    refine (List.map_id ys).symm.trans (List.map_congr_left fun x hx => ?_)
    obtain ⟨j, hj, rfl⟩ := List.mem_iff_getElem.1 hx
    have h4 := h2 j hj
    have h5 := wasAt_nn h2 (show j ≤ ys.length by omega)
    have h6 : ix ys j = ys[j] := by unfold ix; rw [List.getElem?_eq_getElem hj]; rfl
    simp only [id, Function.comp]
    omega
  have hlen : (ys.map Int.toNat).length = ys.length := List.length_map _
  refine ⟨ys.map Int.toNat, hint, ?_, by rw [hlen]; exact h1.1, by rw [hlen]; exact h1.2⟩
  rw [hint] at h2 h3
  have hcw : ∀ j, j ≤ ys.length → (cw 0 (ys.map Int.toNat) j : Int) = wasAt (ints (ys.map Int.toNat)) j := fun j hj => by
    rw [← cutW_ints]
    unfold cutW
    have := wasAt_nn h2 (j := j) (by rw [← hint]; exact hj)
    omega
  refine cw_chain (fun j hj => ?_) ?_
  · rw [hlen] at hj
    have h4 := h2 j (by rw [← hint]; exact hj)
    have h5 := hcw j (by omega)
    have h6 := hcw (j + 1) (by omega)
    have h7 : wasAt (ints (ys.map Int.toNat)) (j + 1) = ix (ints (ys.map Int.toNat)) j := rfl
    omega
  · have h5 := hcw ys.length (Nat.le_refl _)
    rw [hlen]
    rw [← hint] at h3 h5
    omega
theorem chain_ends {es : List Nat} (h : Chain n 0 es) (h1 : 1 ≤ es.length) (h2 : es.length ≤ 6) (hn : 1 ≤ n ∧ n ≤ 12) : endsFault (ints es) n = 0 := by
  obtain ⟨a1, a2⟩ := chain_cw h
  have hw : ∀ j, wasAt (ints es) j = (cw 0 es j : Int) := fun j => by
    cases j with
    | zero => simp [wasAt, cw]
    | succ j => show ix (ints es) j = _; rw [ints_ix, cw_is]
  refine endsFault_0 (by omega) (by rw [ints_length]; omega) ⟨fun t ht => ?_, by rw [ints_length, hw, a2]⟩
  rw [ints_length] at ht
  have h3 := (a1 t ht).1
  have h4 : ix (ints es) t = wasAt (ints es) (t + 1) := rfl
  rw [h4, hw, hw]
  omega
theorem take_next {l : List Int} {t : Nat} (h : t < l.length) : l.take (t + 1) = l.take t ++ [ix l t] := by
  rw [List.take_succ_eq_append_getElem h]
  unfold ix
  rw [List.getElem?_eq_getElem h]
  rfl
theorem dear_snoc (x : Int) : ∀ (l : List Int), dear (l ++ [x]) = max (dear l) (max x 0)
  | [] => by show max x 0 = max 0 (max x 0); omega
  | y :: l => by
    show max y (dear (l ++ [x])) = max (max y (dear l)) (max x 0)
    rw [dear_snoc x l]
    omega
theorem dear_next {l : List Int} {t : Nat} (h : t < l.length) (h0 : 0 ≤ ix l t) : dear (l.take (t + 1)) = if dear (l.take t) < ix l t then ix l t else dear (l.take t) := by
  rw [take_next h, dear_snoc]
  have := dear_nn (l.take t)
  split <;> omega
theorem sum_next {l : List Int} {t : Nat} (h : t < l.length) : (l.take (t + 1)).sum = (l.take t).sum + ix l t := by
  rw [take_next h, List.sum_append]
  simp
theorem sum_bd {l : List Int} (h : ∀ j, 0 ≤ ix l j ∧ ix l j ≤ 12000000) : ∀ {t : Nat}, t ≤ l.length → 0 ≤ (l.take t).sum ∧ (l.take t).sum ≤ 12000000 * t
  | 0, _ => by simp
  | t + 1, ht => by
    have h1 := sum_bd h (t := t) (by omega)
    have h2 := h t
    rw [sum_next (by omega)]
    push_cast
    omega
theorem dear_bd {l : List Int} (h : ∀ j, 0 ≤ ix l j ∧ ix l j ≤ 12000000) : ∀ {t : Nat}, t ≤ l.length → 0 ≤ dear (l.take t) ∧ dear (l.take t) ≤ 12000000
  | 0, _ => by simp [dear]
  | t + 1, ht => by
    have h1 := dear_bd h (t := t) (by omega)
    have h2 := h t
    rw [dear_next (by omega) h2.1]
    split <;> omega
end
theorem best_all {c : Nat → Int} {n s : Nat} (hc : ∀ i, 0 ≤ c i ∧ c i ≤ 1000000) (h1 : 1 ≤ s) (h2 : s ≤ n) (hn : n ≤ 12) :
    ∃ es, picks c n (lim c n s) s 0 = es ∧ es.length = s ∧ Chain n 0 es ∧ (lim c n s : Int) = dear (costsOf c 0 es) ∧ (costsOf c 0 es).sum ≤ (lim c n s : Int) * s ∧ (∀ i, i < n → c i ≤ (lim c n s : Int)) ∧ (∀ es', es'.length = s → Chain n 0 es' → (lim c n s : Int) ≤ dear (costsOf c 0 es')) ∧ (lim c n s : Int) ≤ 12000000 := by
  obtain ⟨r, rfl⟩ : ∃ r, s = r + 1 := ⟨s - 1, by omega⟩
  have hc0 : ∀ i, 0 ≤ c i := fun i => (hc i).1
  have hl := lim_is (c := c) hc0 h2
  obtain ⟨_, _, _, b4⟩ := best_is (c := c) hc0 h2
  obtain ⟨a1, a2, a3, a4, a5, a6⟩ := cut_best (c := c) hc0 h2
  rw [← hl] at a3 a4 a5 a6 b4
  refine ⟨_, b4, a1, a2, a3, ?_, a5, a6, ?_⟩
  · rw [costsOf_sum a2, Nat.sub_zero]
    push_cast
    exact a4
  · have h3 := lim_le (c := c) (n := n) (s := r + 1)
    have h4 := sg_bd hc 0 n
    omega
theorem costsOf_bd {c : Nat → Int} (hc : ∀ i, 0 ≤ c i ∧ c i ≤ 1000000) {n : Nat} (hn : n ≤ 12) {es : List Nat} (h : Chain n 0 es) : ∀ j, 0 ≤ ix (costsOf c 0 es) j ∧ ix (costsOf c 0 es) j ≤ 12000000 := fun j => by
  rcases Nat.lt_or_ge j es.length with h1 | h1
  · rw [costsOf_ix es 0 j h1]
    have h2 := sg_bd hc (cw 0 es j) (cw 0 es (j + 1) - cw 0 es j)
    have h3 := (chain_cw h).1 j h1
    omega
  · have : ix (costsOf c 0 es) j = 0 := by unfold ix; rw [List.getElem?_eq_none (by rw [costsOf_length]; exact h1)]; rfl
    omega
section
variable {c : Nat → Int} {n : Nat}
/-- what is wrong with costs and a number of parts -/
def bestFault (xs : List Int) (s : Int) : Int := if (s < 1 ∨ 6 < s) ∨ (xs.length < 1 ∨ 12 < xs.length) then 1 else if costsFault xs ≠ 0 then costsFault xs else if (xs.length : Int) < s then 2 else 0
theorem costsFault_or (xs : List Int) : costsFault xs = 0 ∨ costsFault xs = 1 := by unfold costsFault; by_cases h : costsTo xs xs.length <;> simp [h]
def costFault (xs ys : List Int) : Int := if costsFault xs ≠ 0 then costsFault xs else endsFault ys xs.length
theorem endsFault_or (ys : List Int) (m : Int) : endsFault ys m = 0 ∨ endsFault ys m = 1 ∨ endsFault ys m = 2 ∨ endsFault ys m = 5 := by
  unfold endsFault
  repeat' split
  all_goals simp
end
end Gal
namespace Go.Proofs.YtjaepdkeldgikaaDoor
open Go.RowKit Gal
set_option maxRecDepth 100000
set_option maxHeartbeats 4000000
theorem cutCost_bad (xs ys : List Int) (a a' : Option Addr) (n m k k' b b' o o' : Nat) (w : World) (h : IntsAt w a n k b o xs) (h' : IntsAt w a' m k' b' o' ys) (hf : costFault xs ys ≠ 0) :
    Calls Tryd.prog 22 #[.slice a n k, .slice a' m k'] w fun e w' => e = .returned (.tuple #[.slice none 0 0, errV (costFault xs ys)]) ∧ w = w' := by
  have hl := h.len
  by_cases hx : costsFault xs = 0
  · have hq : costFault xs ys = endsFault ys n := by unfold costFault; rw [if_neg (by simp [hx]), hl]
    rw [hq] at hf ⊢
    have HF := Lib.hid hf
    have HX := Lib.hid hx
    clear hf hx hl hq
    go_enter Tryd.func22, Tryd.ntmps22
    go_wp2_with fail
    refine (costly_any xs _ _ _ _ _ _ h).mono ?_
    rintro e w1 ⟨rfl, rfl⟩
    rw [errV_nil HX.out]
    go_wp2_with fail
    refine (cutCheck_any ys n _ _ _ _ _ _ h').mono ?_
    rintro e w1 ⟨rfl, rfl⟩
    rw [errV_err HF.out]
    go_wp2
    go_ret2
    exact ⟨by rw [errV_err HF.out]; rfl, rfl⟩
  · have hq : costFault xs ys = costsFault xs := by unfold costFault; rw [if_pos hx]
    rw [hq] at hf ⊢
    have HX := Lib.hid hx
    clear hf hx hl hq
    go_enter Tryd.func22, Tryd.ntmps22
    go_wp2_with fail
    refine (costly_any xs _ _ _ _ _ _ h).mono ?_
    rintro e w1 ⟨rfl, rfl⟩
    rw [errV_err HX.out]
    go_wp2
    go_ret2
    exact ⟨by rw [errV_err HX.out]; rfl, rfl⟩
theorem cutBest_bad (xs : List Int) (s : Int) (a : Option Addr) (n k b o : Nat) (w : World) (h : IntsAt w a n k b o xs) (hf : bestFault xs s ≠ 0) :
    Calls Tryd.prog 26 #[.slice a n k, .int .i64 s] w fun e w' => e = .returned (.tuple #[.slice none 0 0, .int .i64 0, errV (bestFault xs s)]) ∧ Below w.heap.size w w' := by
  have hl := h.len
  have hmx := h.max
  unfold maxLen at hmx
  unfold bestFault at hf ⊢
  rw [hl] at hf ⊢
  by_cases h1 : (s < 1 ∨ 6 < s) ∨ (n < 1 ∨ 12 < n)
  · rw [if_pos h1, errV_err (by decide)]
    by_cases g1 : s < 1
    · clear hf h1 hl hmx
      go_enter Tryd.func26, Tryd.ntmps26
      go_wp2
      go_ret3
      exact ⟨rfl, (by repeat (first | fail | (with_reducible exact Below.refl _ _) | (with_reducible refine Below.al ?_ _) | (with_reducible refine Below.drN ?_ _) | (with_reducible refine Below.drew ?_) | (with_reducible refine Below.st ?_ ?_ _; rotate_left 1; (first | (dsimp only; omega) | omega | (simp; omega) | simp)) | exact Below.refl _ _))⟩
    · have e1 : (s < 1) = False := by simp; omega
      by_cases g2 : s > 6
      · clear hf h1 hl hmx g1
        go_enter Tryd.func26, Tryd.ntmps26
        go_wp2
        go_ret3
        exact ⟨rfl, (by repeat (first | fail | (with_reducible exact Below.refl _ _) | (with_reducible refine Below.al ?_ _) | (with_reducible refine Below.drN ?_ _) | (with_reducible refine Below.drew ?_) | (with_reducible refine Below.st ?_ ?_ _; rotate_left 1; (first | (dsimp only; omega) | omega | (simp; omega) | simp)) | exact Below.refl _ _))⟩
      · have e2 : (s > 6) = False := by simp; omega
        by_cases g3 : n < 1
        · have e3 : (n : Int) < 1 := by omega
          clear hf h1 hl hmx g1 g2
          go_enter Tryd.func26, Tryd.ntmps26
          go_wp2
          go_ret3
          exact ⟨rfl, (by repeat (first | fail | (with_reducible exact Below.refl _ _) | (with_reducible refine Below.al ?_ _) | (with_reducible refine Below.drN ?_ _) | (with_reducible refine Below.drew ?_) | (with_reducible refine Below.st ?_ ?_ _; rotate_left 1; (first | (dsimp only; omega) | omega | (simp; omega) | simp)) | exact Below.refl _ _))⟩
        · have e3 : ((n : Int) < 1) = False := by simp; omega
          have e4 : (n : Int) > 12 := by omega
          clear hf h1 hl hmx g1 g2
          go_enter Tryd.func26, Tryd.ntmps26
          go_wp2
          go_ret3
          exact ⟨rfl, (by repeat (first | fail | (with_reducible exact Below.refl _ _) | (with_reducible refine Below.al ?_ _) | (with_reducible refine Below.drN ?_ _) | (with_reducible refine Below.drew ?_) | (with_reducible refine Below.st ?_ ?_ _; rotate_left 1; (first | (dsimp only; omega) | omega | (simp; omega) | simp)) | exact Below.refl _ _))⟩
  · rw [if_neg h1] at hf ⊢
    have e1 : (s < 1) = False := by simp; omega
    have e2 : (s > 6) = False := by simp; omega
    have e3 : ((n : Int) < 1) = False := by simp; omega
    have e4 : ((n : Int) > 12) = False := by simp; omega
    by_cases hx : costsFault xs = 0
    · rw [if_neg (by simp [hx])] at hf ⊢
      by_cases h2 : (n : Int) < s
      · rw [if_pos h2, errV_err (by decide)]
        have e5 : s > (n : Int) := h2
        have HX := Lib.hid hx
        clear hf h1 hl hx h2
        go_enter Tryd.func26, Tryd.ntmps26
        go_wp2_with fail
        refine (costly_any xs _ _ _ _ _ _ ((h.alloc _).alloc _)).mono ?_
        rintro e w1 ⟨rfl, rfl⟩
        rw [errV_nil HX.out]
        go_wp2
        go_ret3
        exact ⟨rfl, (by repeat (first | fail | (with_reducible exact Below.refl _ _) | (with_reducible refine Below.al ?_ _) | (with_reducible refine Below.drN ?_ _) | (with_reducible refine Below.drew ?_) | (with_reducible refine Below.st ?_ ?_ _; rotate_left 1; (first | (dsimp only; omega) | omega | (simp; omega) | simp)) | exact Below.refl _ _))⟩
      · rw [if_neg h2] at hf
        exact absurd rfl hf
    · rw [if_pos hx]
      have HX := Lib.hid hx
      clear hf h1 hl hx
      go_enter Tryd.func26, Tryd.ntmps26
      go_wp2_with fail
      refine (costly_any xs _ _ _ _ _ _ ((h.alloc _).alloc _)).mono ?_
      rintro e w1 ⟨rfl, rfl⟩
      rw [errV_err HX.out]
      go_wp2
      go_ret3
      exact ⟨by rw [errV_err HX.out]; rfl, (by repeat (first | fail | (with_reducible exact Below.refl _ _) | (with_reducible refine Below.al ?_ _) | (with_reducible refine Below.drN ?_ _) | (with_reducible refine Below.drew ?_) | (with_reducible refine Below.st ?_ ?_ _; rotate_left 1; (first | (dsimp only; omega) | omega | (simp; omega) | simp)) | exact Below.refl _ _))⟩
end Go.Proofs.YtjaepdkeldgikaaDoor
