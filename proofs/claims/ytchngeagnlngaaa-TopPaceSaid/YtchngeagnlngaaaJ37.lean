/- Texts joined: PCut3, PCut4, PCut5, Cut1. -/
import Derived.Test.YtchngeagnlngaaaJ36
import Derived.Test.YtchngeagnlngaaaJ07
import Derived.Test.YtchngeagnlngaaaJ06
section
set_option linter.unusedVariables false
set_option linter.unusedSimpArgs false
namespace Gal
theorem findSome_if {α β : Type} (q : α → Bool) (h : α → β) : ∀ (l : List α), l.findSome? (fun j => if q j = true then some (h j) else none) = (l.find? q).map h
 | [] => rfl
 | x :: l => by
  rw [List.findSome?_cons, List.find?_cons]
  cases hq : q x with
  | true => simp
  | false => simp [findSome_if q h l]
theorem findSome_congr {α β : Type} {f g : α → Option β} : ∀ {l : List α}, (∀ x ∈ l, f x = g x) → l.findSome? f = l.findSome? g
 | [], _ => rfl
 | x :: l, h => by
  rw [List.findSome?_cons, List.findSome?_cons, h x (by simp), findSome_congr fun y hy => h y (by simp [hy])]
section
variable {c : Nat → Int} {n : Nat} {L : Int}
theorem comps_fits (hL : 0 ≤ L) : ∀ {s k : Nat} {es : List Nat}, es ∈ comps n s k → worst c k es ≤ L → Fits c n L s k
 | 0, k, es, h, _ => by
  unfold comps at h
  by_cases hk : k = n
  ·exact hk
  ·rw [if_neg hk] at h; cases h
 | s + 1, k, es, h, hw => by
  unfold comps at h
  obtain ⟨j, hj, h1⟩ := List.mem_flatMap.1 h
  obtain ⟨es', h2, rfl⟩ := List.mem_map.1 h1
  have h3 := List.mem_range.1 hj
  have h4 : max (sg c k (k + 1 + j - k)) (worst c (k + 1 + j) es') ≤ L := hw
  rw [show k + 1 + j - k = j + 1 by omega] at h4
  refine ⟨j + 1, by omega, by omega, by omega, ?_⟩
  rw [show k + (j + 1) = k + 1 + j by omega]
  exact comps_fits hL h2 (by omega)
theorem fits_comps : ∀ {s k : Nat}, 0 ≤ L → Fits c n L s k → ∃ es, es ∈ comps n s k ∧ worst c k es ≤ L
 | 0, k, hL, h => ⟨[], by unfold comps; rw [if_pos (show k = n from h)]; simp, hL⟩
 | s + 1, k, hL, ⟨d, h1, h2, h3, h4⟩ => by
  obtain ⟨es, h5, h6⟩ := fits_comps hL h4
  refine ⟨(k + d) :: es, ?_, ?_⟩
  ·unfold comps
   refine List.mem_flatMap.2 ⟨d - 1, List.mem_range.2 (by omega), List.mem_map.2 ⟨es, ?_, ?_⟩⟩
   ·rw [show k + 1 + (d - 1) = k + d by omega]; exact h5
   ·rw [show k + 1 + (d - 1) = k + d by omega]
  ·show max (sg c k (k + d - k)) (worst c (k + d) es) ≤ L
   rw [show k + d - k = d by omega]
   omega
theorem picks_succ {s k : Nat} : picks c n L (s + 1) k = match pickAt c n L s k with
  | none => []
  | some j => (k + 1 + j) :: picks c n L s (k + 1 + j) := by rw [picks]; cases pickAt c n L s k <;> rfl
theorem picks_is (hc : ∀ i, 0 ≤ c i) (hL : 0 ≤ L) : ∀ (s k : Nat), Fits c n L s k → (comps n s k).find? (fun es => decide (worst c k es ≤ L)) = some (picks c n L s k)
 | 0, k, h => by
  have hk : k = n := h
  simp [comps, hk, worst, hL, picks]
 | s + 1, k, h => by
  have hcond : ∀ j ∈ List.range (n - k), ((comps n s (k + 1 + j)).map fun es => (k + 1 + j) :: es).find? (fun es => decide (worst c k es ≤ L)) =
    if decide (sg c k (j + 1) ≤ L ∧ tl c n L (n - (k + 1 + j)) ≤ s ∧ s ≤ n - (k + 1 + j)) = true then some ((k + 1 + j) :: picks c n L s (k + 1 + j)) else none := fun j hj => by
   have hj' := List.mem_range.1 hj
   have hfit := fits_iff (c := c) (n := n) (L := L) hc hL (d := n - (k + 1 + j)) (s := s) (by omega)
   rw [show n - (n - (k + 1 + j)) = k + 1 + j by omega] at hfit
   have hw : ∀ es, worst c k ((k + 1 + j) :: es) = max (sg c k (j + 1)) (worst c (k + 1 + j) es) := fun es => by
    show max (sg c k (k + 1 + j - k)) (worst c (k + 1 + j) es) = _
    rw [show k + 1 + j - k = j + 1 by omega]
   rw [List.find?_map]
   by_cases h1 : sg c k (j + 1) ≤ L
   ·have hp : ((fun es => decide (worst c k es ≤ L)) ∘ fun es => (k + 1 + j) :: es) = fun es => decide (worst c (k + 1 + j) es ≤ L) := by
     funext es
     simp only [Function.comp, hw, decide_eq_decide]
     omega
    rw [hp]
    by_cases h2 : Fits c n L s (k + 1 + j)
    ·rw [picks_is hc hL s (k + 1 + j) h2, if_pos (by simp only [decide_eq_true_eq]; exact ⟨h1, hfit.1 h2⟩)]
     rfl
    ·have h3 : (comps n s (k + 1 + j)).find? (fun es => decide (worst c (k + 1 + j) es ≤ L)) = none := List.find?_eq_none.2 fun es hes => by
      simp only [decide_eq_true_eq]
      exact fun h4 => h2 (comps_fits hL hes h4)
     rw [h3, if_neg (by simp only [decide_eq_true_eq]; exact fun h4 => h2 (hfit.2 h4.2))]
     rfl
   ·have h3 : (comps n s (k + 1 + j)).find? ((fun es => decide (worst c k es ≤ L)) ∘ fun es => (k + 1 + j) :: es) = none := List.find?_eq_none.2 fun es hes => by
     simp only [Function.comp, hw, decide_eq_true_eq]
     omega
    rw [h3, if_neg (by simp only [decide_eq_true_eq]; exact fun h4 => h1 h4.1)]
    rfl
  unfold comps
  rw [List.find?_flatMap, findSome_congr hcond, findSome_if (fun j => decide (sg c k (j + 1) ≤ L ∧ tl c n L (n - (k + 1 + j)) ≤ s ∧ s ≤ n - (k + 1 + j))) (fun j => (k + 1 + j) :: picks c n L s (k + 1 + j))]
  have hsome : pickAt c n L s k ≠ none := fun h0 => by
   obtain ⟨d, d1, d2, d3, d4⟩ := h
   have h1 := List.find?_eq_none.1 h0 (d - 1) (List.mem_range.2 (by omega))
   simp only [decide_eq_true_eq] at h1
   have hfit := fits_iff (c := c) (n := n) (L := L) hc hL (d := n - (k + 1 + (d - 1))) (s := s) (by omega)
   rw [show n - (n - (k + 1 + (d - 1))) = k + d by omega] at hfit
   refine h1 ⟨?_, hfit.1 d4⟩
   rw [show d - 1 + 1 = d by omega]
   exact d3
  show (pickAt c n L s k).map _ = some (picks c n L (s + 1) k)
  rw [picks_succ]
  cases hp : pickAt c n L s k with
  | none => exact absurd hp hsome
  | some j => rfl
theorem best_is (hc : ∀ i, 0 ≤ c i) {s : Nat} (hs : s + 1 ≤ n) :
  0 ≤ (refBest c n s 0 0).2 ∧ tl c n (refBest c n s 0 0).2 n ≤ s + 1 ∧ (∀ M, 0 ≤ M → tl c n M n ≤ s + 1 → (refBest c n s 0 0).2 ≤ M) ∧ picks c n (refBest c n s 0 0).2 (s + 1) 0 = (refBest c n s 0 0).1 := by
 obtain ⟨h1, h2⟩ := refBest_is (c := c) (n := n) hc s 0 0 (by omega)
 have hnn := worst_nn hc (refBest c n s 0 0).1 0
 have h3 : (refBest c n s 0 0).2 = worst c 0 (refBest c n s 0 0).1 := by rw [h2]; omega
 have hm0 : 0 ≤ (refBest c n s 0 0).2 := by rw [h3]; exact hnn
 have hfit : Fits c n (refBest c n s 0 0).2 (s + 1) 0 := comps_fits hm0 h1.mem (by rw [h3]; exact Int.le_refl _)
 have htl : ∀ M, 0 ≤ M → (Fits c n M (s + 1) 0 ↔ tl c n M n ≤ s + 1) := fun M hM => by
  have := fits_iff (c := c) (n := n) (L := M) hc hM (d := n) (s := s + 1) (Nat.le_refl _)
  rw [Nat.sub_self] at this
  exact ⟨fun h => (this.1 h).1, fun h => this.2 ⟨h, hs⟩⟩
 refine ⟨hm0, (htl _ hm0).1 hfit, fun M hM hM2 => ?_, ?_⟩
 ·obtain ⟨es, e1, e2⟩ := fits_comps hM ((htl M hM).2 hM2)
  have h4 : max 0 (worst c 0 (refBest c n s 0 0).1) ≤ max 0 (worst c 0 es) := h1.le e1
  omega
 ·have hp := picks_is (c := c) (n := n) hc hm0 (s + 1) 0 hfit
  have hq := h1.find
  have hfun : (fun y => decide (max 0 (worst c 0 y) ≤ max 0 (worst c 0 (refBest c n s 0 0).1))) = fun es => decide (worst c 0 es ≤ (refBest c n s 0 0).2) := by
   funext es
   rw [decide_eq_decide, h3]
   have := worst_nn hc es 0
   omega
  rw [hfun] at hq
  exact Option.some.inj (hp.symm.trans hq)
end
end Gal
end
section
set_option linter.unusedVariables false
set_option linter.unusedSimpArgs false
namespace Gal
section
variable (c : Nat → Int) (n : Nat)
def Chain : Nat → List Nat → Prop
 | k, [] => k = n
 | k, e :: es => k < e ∧ e ≤ n ∧ Chain e es
def costsOf : Nat → List Nat → List Int
 | _, [] => []
 | k, e :: es => sg c k (e - k) :: costsOf e es
end
def dear : List Int → Int
 | [] => 0
 | x :: l => max x (dear l)
section
variable {c : Nat → Int} {n : Nat}
theorem comps_chain : ∀ {s k : Nat} {es : List Nat}, es ∈ comps n s k ↔ es.length = s ∧ Chain n k es
 | 0, k, es => by
  unfold comps
  by_cases hk : k = n
  ·rw [if_pos hk]
   constructor
   ·intro h
    have : es = [] := by simpa using h
    subst this
    exact ⟨rfl, hk⟩
   ·rintro ⟨h1, _⟩
    have : es = [] := List.eq_nil_of_length_eq_zero h1
    simp [this]
  ·rw [if_neg hk]
   constructor
   ·intro h; cases h
   ·rintro ⟨h1, h2⟩
    have : es = [] := List.eq_nil_of_length_eq_zero h1
    subst this
    exact absurd h2 hk
 | s + 1, k, es => by
  unfold comps
  constructor
  ·intro h
   obtain ⟨j, hj, h1⟩ := List.mem_flatMap.1 h
   obtain ⟨es', h2, rfl⟩ := List.mem_map.1 h1
   have h3 := List.mem_range.1 hj
   obtain ⟨h4, h5⟩ := comps_chain.1 h2
   exact ⟨by rw [List.length_cons, h4], by omega, by omega, h5⟩
  ·rintro ⟨h1, h2⟩
   cases es with
   | nil => simp at h1
   | cons e es =>
    obtain ⟨h3, h4, h5⟩ := h2
    refine List.mem_flatMap.2 ⟨e - (k + 1), List.mem_range.2 (by omega), List.mem_map.2 ⟨es, ?_, ?_⟩⟩
    ·rw [show k + 1 + (e - (k + 1)) = e by omega]
     exact comps_chain.2 ⟨by simpa using h1, h5⟩
    ·rw [show k + 1 + (e - (k + 1)) = e by omega]
theorem costsOf_length : ∀ (es : List Nat) (k : Nat), (costsOf c k es).length = es.length
 | [], _ => rfl
 | e :: es, k => by simp [costsOf, costsOf_length es e]
theorem worst_dear : ∀ (es : List Nat) (k : Nat), worst c k es = dear (costsOf c k es)
 | [], _ => rfl
 | e :: es, k => by
  show max (sg c k (e - k)) (worst c e es) = max (sg c k (e - k)) (dear (costsOf c e es))
  rw [worst_dear es e]
theorem costsOf_sum : ∀ {es : List Nat} {k : Nat}, Chain n k es → (costsOf c k es).sum = sg c k (n - k)
 | [], k, h => by
  have hk : k = n := h
  subst hk
  simp [costsOf, sg]
 | e :: es, k, ⟨h1, h2, h3⟩ => by
  have h4 := costsOf_sum h3
  have h5 := sg_split (c := c) k (e - k) (n - e)
  rw [show e - k + (n - e) = n - k by omega, show k + (e - k) = e by omega] at h5
  show (sg c k (e - k) :: costsOf c e es).sum = _
  rw [List.sum_cons, h4, h5]
theorem sum_dear : ∀ (l : List Int), l.sum ≤ dear l * l.length
 | [] => by simp [dear]
 | x :: l => by
  have h1 := sum_dear l
  have h2 : dear l ≤ dear (x :: l) := by show dear l ≤ max x (dear l); omega
  have h3 : x ≤ dear (x :: l) := by show x ≤ max x (dear l); omega
  have h4 : dear l * l.length ≤ dear (x :: l) * l.length := Int.mul_le_mul_of_nonneg_right h2 (by omega)
  rw [List.sum_cons, List.length_cons]
  push_cast
  rw [Int.mul_add, Int.mul_one]
  omega
theorem each_le (hc : ∀ i, 0 ≤ c i) : ∀ {es : List Nat} {k : Nat}, Chain n k es → ∀ i, k ≤ i → i < n → c i ≤ worst c k es
 | [], k, h, i, h1, h2 => by
  have hk : k = n := h
  omega
 | e :: es, k, ⟨h1, h2, h3⟩, i, h4, h5 => by
  show c i ≤ max (sg c k (e - k)) (worst c e es)
  rcases Nat.lt_or_ge i e with h6 | h6
  ·have := sg_one hc (k := k) (d := e - k) (i := i - k) (by omega)
   rw [show k + (i - k) = i by omega] at this
   omega
  ·have := each_le hc h3 i h6 h5
   omega
theorem cut_best (hc : ∀ i, 0 ≤ c i) {s : Nat} (hs : s + 1 ≤ n) :
  (refBest c n s 0 0).1.length = s + 1 ∧ Chain n 0 (refBest c n s 0 0).1 ∧ (refBest c n s 0 0).2 = dear (costsOf c 0 (refBest c n s 0 0).1) ∧ sg c 0 n ≤ (refBest c n s 0 0).2 * ((s : Int) + 1) ∧
   (∀ i, i < n → c i ≤ (refBest c n s 0 0).2) ∧ ∀ es : List Nat, es.length = s + 1 → Chain n 0 es → (refBest c n s 0 0).2 ≤ dear (costsOf c 0 es) := by
 obtain ⟨h1, h2⟩ := refBest_is (c := c) (n := n) hc s 0 0 (by omega)
 have hnn := worst_nn hc (refBest c n s 0 0).1 0
 have h3 : (refBest c n s 0 0).2 = worst c 0 (refBest c n s 0 0).1 := by rw [h2]; omega
 obtain ⟨h4, h5⟩ := comps_chain.1 h1.mem
 refine ⟨h4, h5, by rw [h3, worst_dear], ?_, fun i hi => by rw [h3]; exact each_le hc h5 i (Nat.zero_le _) hi, fun es e1 e2 => ?_⟩
 ·have h6 := sum_dear (costsOf c 0 (refBest c n s 0 0).1)
  rw [costsOf_sum h5, costsOf_length, h4, ← worst_dear, ← h3] at h6
  simpa using h6
 ·have h7 : max 0 (worst c 0 (refBest c n s 0 0).1) ≤ max 0 (worst c 0 es) := h1.le (comps_chain.2 ⟨e1, e2⟩)
  have h8 := worst_nn hc es 0
  rw [← worst_dear]
  omega
end
end Gal
end
section
set_option linter.unusedVariables false
set_option linter.unusedSimpArgs false
namespace Gal
theorem count_least {p : Nat → Bool} {m N : Nat} (h1 : ∀ i, i < m → p i = false) (h2 : ∀ i, m ≤ i → i < N → p i = true) (hm : m ≤ N) : (List.range N).countP (fun i => !p i) = m := by
 rw [show N = m + (N - m) by omega, List.range_add, List.countP_append]
 have a1 : (List.range m).countP (fun i => !p i) = m := by
  have := List.countP_eq_length (p := fun i => !p i) (l := List.range m)
  rw [List.length_range] at this
  exact this.2 fun i hi => by rw [h1 i (List.mem_range.1 hi)]; rfl
 have a2 : ((List.range (N - m)).map (m + ·)).countP (fun i => !p i) = 0 := List.countP_eq_zero.2 fun i hi => by
  obtain ⟨j, hj, rfl⟩ := List.mem_map.1 hi
  have := List.mem_range.1 hj
  rw [h2 (m + j) (by omega) (by omega)]
  simp
 rw [a1, a2]
 omega
section
variable {c : Nat → Int} {n : Nat}
theorem tl_more (hc : ∀ i, 0 ≤ c i) {L M : Int} (hL : 0 ≤ L) (hLM : L ≤ M) {s : Nat} (hs : s ≤ n) (h : tl c n L n ≤ s) : tl c n M n ≤ s := by
 have h1 := tl_fits hc hL n s (Nat.le_refl _) h hs
 exact tl_least hc (by omega) s n (Nat.le_refl _) (fits_more hLM h1)
theorem tl_all (hc : ∀ i, 0 ≤ c i) {s : Nat} (hs : s + 1 ≤ n) : tl c n (sg c 0 n) n ≤ s + 1 := by
 have h0 := sg_nn hc 0 n
 have h1 : Fits c n (sg c 0 n) 1 (n - n) := by
  rw [Nat.sub_self]
  exact ⟨n, by omega, by omega, Int.le_refl _, by show 0 + n = n; omega⟩
 have := tl_least hc h0 1 n (Nat.le_refl _) h1
 omega
theorem limit_is (hc : ∀ i, 0 ≤ c i) {s all : Nat} (hs : s + 1 ≤ n) (hall : sg c 0 n = all) : ((List.range all).countP (fun (i : Nat) => !decide (tl c n (i : Int) n ≤ s + 1)) : Int) = (refBest c n s 0 0).2 := by
 obtain ⟨h1, h2, h3, _⟩ := best_is (c := c) (n := n) hc hs
 obtain ⟨m, hm⟩ : ∃ m : Nat, (refBest c n s 0 0).2 = m := ⟨(refBest c n s 0 0).2.toNat, by omega⟩
 rw [hm] at h1 h2 h3 ⊢
 have h4 := h3 all (by omega) (by rw [← hall]; exact tl_all hc hs)
 rw [count_least (m := m) (fun i hi => ?_) (fun i hi _ => ?_) (by omega)]
 ·refine decide_eq_false fun h5 => ?_
  have := h3 i (by omega) h5
  omega
 ·exact decide_eq_true (tl_more hc h1 (by omega) hs h2)
end
end Gal
end
section
set_option linter.unusedVariables false
set_option linter.unusedSimpArgs false
set_option linter.unusedSectionVars false
namespace Gal
def costsTo (xs : List Int) : Nat → Prop
 | 0 => True
 | k + 1 => costsTo xs k ∧ 0 ≤ ix xs k ∧ ix xs k ≤ 1000000
theorem costsTo_iff {xs : List Int} : ∀ {n : Nat}, costsTo xs n ↔ ∀ k, k < n → 0 ≤ ix xs k ∧ ix xs k ≤ 1000000
 | 0 => ⟨fun _ k hk => absurd hk (Nat.not_lt_zero _), fun _ => trivial⟩
 | n + 1 => ⟨fun h k hk => by
   rcases Nat.lt_or_ge k n with h1 | h1
   ·exact costsTo_iff.1 h.1 k h1
   ·obtain rfl : k = n := by omega
    exact h.2, fun h => ⟨costsTo_iff.2 fun k hk => h k (by omega), h n (by omega)⟩⟩
instance (xs : List Int) (n : Nat) : Decidable (costsTo xs n) := decidable_of_iff (∀ k, k < n → 0 ≤ ix xs k ∧ ix xs k ≤ 1000000) costsTo_iff.symm
def wasAt (xs : List Int) : Nat → Int
 | 0 => 0
 | t + 1 => ix xs t
def rises (xs : List Int) (n : Nat) : Prop := ∀ t, t < n → wasAt xs t < ix xs t
instance (xs : List Int) (n : Nat) : Decidable (rises xs n) := by unfold rises; exact inferInstance
def endsFault (xs : List Int) (m : Int) : Int := if m < 1 ∨ 12 < m then 1 else if xs.length = 0 ∨ 6 < xs.length then 2 else if rises xs xs.length ∧ wasAt xs xs.length = m then 0 else 5
theorem endsFault_1 {xs : List Int} {m : Int} (h : m < 1 ∨ 12 < m) : endsFault xs m = 1 := if_pos h
theorem endsFault_2 {xs : List Int} {m : Int} (h : ¬ (m < 1 ∨ 12 < m)) (h2 : xs.length = 0 ∨ 6 < xs.length) : endsFault xs m = 2 := by unfold endsFault; rw [if_neg h, if_pos h2]
theorem endsFault_5 {xs : List Int} {m : Int} (h : ¬ (m < 1 ∨ 12 < m)) (h2 : ¬ (xs.length = 0 ∨ 6 < xs.length)) (h3 : ¬ (rises xs xs.length ∧ wasAt xs xs.length = m)) : endsFault xs m = 5 := by unfold endsFault; rw [if_neg h, if_neg h2, if_neg h3]
theorem endsFault_0 {xs : List Int} {m : Int} (h : ¬ (m < 1 ∨ 12 < m)) (h2 : ¬ (xs.length = 0 ∨ 6 < xs.length)) (h3 : rises xs xs.length ∧ wasAt xs xs.length = m) : endsFault xs m = 0 := by unfold endsFault; rw [if_neg h, if_neg h2, if_pos h3]
def costsFault (xs : List Int) : Int := if costsTo xs xs.length then 0 else 1
end Gal
namespace Go.Proofs.Ytchngeagnlngaaa
open Go.RowKit Gal
set_option maxRecDepth 100000
set_option maxHeartbeats 1000000
theorem costly_any (xs : List Int) (a : Option Addr) (n k b o : Nat) (w : World) (h : IntsAt w a n k b o xs) : Calls Try.prog 41 #[.slice a n k] w fun e w' => e = .returned (errV (costsFault xs)) ∧ w = w' := by
 have hl := h.len
 have hmx := h.max
 unfold maxLen at hmx
 have HL := Lib.hid hl
 clear hl
 go_enter Try.func41, Try.ntmps41
 go_wp2
 go_loopw [7] (fun i wr => ∃ t : Nat, t ≤ n ∧ i = .int .i64 t ∧ costsTo xs t ∧ w = wr) (fun i _ => n - (intOf i).toNat)
 case atStart => exact ⟨0, Nat.zero_le _, rfl, trivial, rfl⟩
 case round =>
  obtain ⟨t, ht, rfl, hpre, rfl⟩ := hrel
  have HP := Lib.hid hpre
  clear hpre
  by_cases hlt : t < n
  ·obtain rfl := h.ptr (by omega)
   have hc := h.cell t hlt
   by_cases h1 : 0 ≤ ix xs t ∧ ix xs t ≤ 1000000
   ·obtain ⟨g1, g2⟩ := h1
    have g3 : (ix xs t < 0) = False := by simp; omega
    have g4 : (ix xs t > 1000000) = False := by simp; omega
    have H1 := Lib.hid (And.intro g1 g2)
    clear g1 g2
    go_wp2
    go_roundw
    case rel => exact ⟨t + 1, by omega, by go_num, ⟨HP.out, H1.out⟩, (by first | rfl | trivial)⟩
    case measure => simp [intOf]; omega
   ·have hF : costsFault xs = 1 := by unfold costsFault; rw [if_neg]; exact fun h2 => h1 (costsTo_iff.1 h2 t (by rw [HL.out]; exact hlt))
    have HF := Lib.hid hF
    by_cases g1 : ix xs t < 0
    ·clear h1 hF
     go_wp2
     go_ret
     exact ⟨by rw [HF.out, errV_err (by omega)]; rfl, rfl⟩
    ·have g2 : (ix xs t < 0) = False := by simp; omega
     have g3 : ix xs t > 1000000 := by omega
     clear h1 hF g1
     go_wp2
     go_ret
     exact ⟨by rw [HF.out, errV_err (by omega)]; rfl, rfl⟩
  ·obtain rfl : t = n := by omega
   have hF : costsFault xs = 0 := by unfold costsFault; rw [if_pos (by rw [HL.out]; exact HP.out)]
   have HF := Lib.hid hF
   clear hF
   go_wp2
   go_ret
   exact ⟨by rw [HF.out, errV_nil rfl]; rfl, rfl⟩
theorem cutCheck_any (xs : List Int) (m : Int) (a : Option Addr) (n k b o : Nat) (w : World) (h : IntsAt w a n k b o xs) : Calls Try.prog 45 #[.slice a n k, .int .i64 m] w fun e w' => e = .returned (errV (endsFault xs m)) ∧ w = w' := by
 have hl := h.len
 have hmx := h.max
 unfold maxLen at hmx
 by_cases h1 : m < 1 ∨ 12 < m
 ·have HF := Lib.hid (endsFault_1 (xs := xs) h1)
  rcases h1 with h1 | h1
  ·clear hl hmx
   go_enter Try.func45, Try.ntmps45
   go_wp2
   go_ret
   exact ⟨by rw [HF.out, errV_err (by omega)]; rfl, rfl⟩
  ·have g1 : (m < 1) = False := by simp; omega
   have g2 : m > 12 := h1
   clear hl hmx h1
   go_enter Try.func45, Try.ntmps45
   go_wp2
   go_ret
   exact ⟨by rw [HF.out, errV_err (by omega)]; rfl, rfl⟩
 ·have g1 : (m < 1) = False := by simp; omega
  have g2 : (m > 12) = False := by simp; omega
  by_cases h2 : n = 0 ∨ 6 < n
  ·have HF := Lib.hid (endsFault_2 h1 (show xs.length = 0 ∨ 6 < xs.length by omega))
   rcases h2 with h2 | h2
   ·have g3 : ((n : Int) == 0) = true := by simp [h2]
    clear hl hmx h1 h2
    go_enter Try.func45, Try.ntmps45
    go_wp2
    go_ret
    exact ⟨by rw [HF.out, errV_err (by omega)]; rfl, rfl⟩
   ·have g3 : ((n : Int) == 0) = false := by simp; omega
    have g4 : (n : Int) > 6 := by omega
    clear hl hmx h1 h2
    go_enter Try.func45, Try.ntmps45
    go_wp2
    go_ret
    exact ⟨by rw [HF.out, errV_err (by omega)]; rfl, rfl⟩
  ·have g3 : ((n : Int) == 0) = false := by simp; omega
   have g4 : ((n : Int) > 6) = False := by simp; omega
   have H1 := Lib.hid h1
   have H2 : Hid (¬ (xs.length = 0 ∨ 6 < xs.length)) := Lib.hid (by omega)
   have HL := Lib.hid hl
   clear hl h1 h2
   go_enter Try.func45, Try.ntmps45
   go_wp2
   go_loopw [5, 26] (fun u i wr => ∃ t : Nat, t ≤ n ∧ i = .int .i64 t ∧ u = .int .i64 (wasAt xs t) ∧ rises xs t ∧ w = wr) (fun _ i _ => n - (intOf i).toNat)
   case atStart => exact ⟨0, Nat.zero_le _, rfl, rfl, fun t ht => absurd ht (Nat.not_lt_zero _), rfl⟩
   case round =>
    obtain ⟨t, ht, rfl, rfl, hpre, rfl⟩ := hrel
    have HP := Lib.hid hpre
    clear hpre
    by_cases hlt : t < n
    ·obtain rfl := h.ptr (by omega)
     have hc := h.cell t hlt
     by_cases hx : ix xs t ≤ wasAt xs t
     ·have HF := Lib.hid (endsFault_5 H1.out H2.out (fun h3 => by have := h3.1 t (by rw [HL.out]; exact hlt); omega))
      go_wp2
      go_ret
      exact ⟨by rw [HF.out, errV_err (by omega)]; rfl, rfl⟩
     ·have g5 : (ix xs t ≤ wasAt xs t) = False := by simp; omega
      have HX := Lib.hid hx
      clear hx
      go_wp2
      go_roundw
      case rel => exact ⟨t + 1, by omega, by go_num, rfl, (fun j hj => by
       rcases Nat.lt_or_ge j t with h6 | h6
       ·exact HP.out j h6
       ·obtain rfl : j = t := by omega
        have := HX.out
        omega), (by first | rfl | trivial)⟩
      case measure => simp [intOf]; omega
    ·obtain rfl : t = n := by omega
     by_cases hm : wasAt xs t = m
     ·have HF := Lib.hid (endsFault_0 H1.out H2.out (by rw [HL.out]; exact ⟨HP.out, hm⟩))
      have g6 : (wasAt xs t != m) = false := by simp [hm]
      clear hm
      go_wp2
      go_ret
      exact ⟨by rw [HF.out, errV_nil rfl]; rfl, rfl⟩
     ·have HF := Lib.hid (endsFault_5 H1.out H2.out (fun h3 => hm (by rw [HL.out] at h3; exact h3.2)))
      have g6 : (wasAt xs t != m) = true := by simp [hm]
      clear hm
      go_wp2
      go_ret
      exact ⟨by rw [HF.out, errV_err (by omega)]; rfl, rfl⟩
end Go.Proofs.Ytchngeagnlngaaa
end
