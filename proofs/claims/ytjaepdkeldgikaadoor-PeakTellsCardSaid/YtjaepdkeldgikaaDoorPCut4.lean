/- Plain: what each stage costs; no cut is better than the best one. No program in sight. -/
import Derived.Test.YtjaepdkeldgikaaDoorPCut3
set_option linter.unusedVariables false
set_option linter.unusedSimpArgs false
namespace Gal
section
variable (c : Nat → Int) (n : Nat)
/-- the ends rise, from k on, to n -/
def Chain : Nat → List Nat → Prop
  | k, [] => k = n
  | k, e :: es => k < e ∧ e ≤ n ∧ Chain e es
/-- what each part costs -/
def costsOf : Nat → List Nat → List Int
  | _, [] => []
  | k, e :: es => sg c k (e - k) :: costsOf e es
end
/-- the dearest of some -/
def dear : List Int → Int
  | [] => 0
  | x :: l => max x (dear l)
section
variable {c : Nat → Int} {n : Nat}
theorem comps_chain : ∀ {s k : Nat} {es : List Nat}, es ∈ comps n s k ↔ es.length = s ∧ Chain n k es
  | 0, k, es => by
    unfold comps
    by_cases hk : k = n
    · rw [if_pos hk]
      constructor
      · intro h
        have : es = [] := by simpa using h
        subst this
        exact ⟨rfl, hk⟩
      · rintro ⟨h1, _⟩
        have : es = [] := List.eq_nil_of_length_eq_zero h1
        simp [this]
    · rw [if_neg hk]
      constructor
      · intro h; cases h
      · rintro ⟨h1, h2⟩
        have : es = [] := List.eq_nil_of_length_eq_zero h1
        subst this
        exact absurd h2 hk
  | s + 1, k, es => by
    unfold comps
    constructor
    · intro h
      obtain ⟨j, hj, h1⟩ := List.mem_flatMap.1 h
      obtain ⟨es', h2, rfl⟩ := List.mem_map.1 h1
      have h3 := List.mem_range.1 hj
      obtain ⟨h4, h5⟩ := comps_chain.1 h2
      exact ⟨by rw [List.length_cons, h4], by omega, by omega, h5⟩
    · rintro ⟨h1, h2⟩
      cases es with
      | nil => simp at h1
      | cons e es =>
        obtain ⟨h3, h4, h5⟩ := h2
        refine List.mem_flatMap.2 ⟨e - (k + 1), List.mem_range.2 (by omega), List.mem_map.2 ⟨es, ?_, ?_⟩⟩
        · rw [show k + 1 + (e - (k + 1)) = e by omega]
          exact comps_chain.2 ⟨by simpa using h1, h5⟩
        · rw [show k + 1 + (e - (k + 1)) = e by omega]
theorem costsOf_length : ∀ (es : List Nat) (k : Nat), (costsOf c k es).length = es.length
  | [], _ => rfl
  | e :: es, k => by simp [costsOf, costsOf_length es e]
theorem worst_dear : ∀ (es : List Nat) (k : Nat), worst c k es = dear (costsOf c k es)
  | [], _ => rfl
  | e :: es, k => by
    show max (sg c k (e - k)) (worst c e es) = max (sg c k (e - k)) (dear (costsOf c e es))
    rw [worst_dear es e]
theorem chain_le : ∀ {es : List Nat} {k : Nat}, Chain n k es → k ≤ n
  | [], k, h => by have : k = n := h
                   omega
  | e :: es, k, ⟨h1, h2, _⟩ => by omega
/-- all parts together cost what all layers cost -/
theorem costsOf_sum : ∀ {es : List Nat} {k : Nat}, Chain n k es → (costsOf c k es).sum = sg c k (n - k)
  | [], k, h => by
    have hk : k = n := h
    subst hk
    simp [costsOf, sg]
  | e :: es, k, ⟨h1, h2, h3⟩ => by
    have h4 := costsOf_sum h3
    have h5 := sg_split (c := c) k (e - k) (n - e)
    rw [show e - k + (n - e) = n - k by omega, show k + (e - k) = e by omega] at h5
    show (sg c k (e - k) :: costsOf c e es).sum = _
    rw [List.sum_cons, h4, h5]
theorem dear_le {l : List Int} {x : Int} (h : x ∈ l) : x ≤ dear l := by
  induction l with
  | nil => cases h
  | cons y l ih =>
    unfold dear
    rcases List.mem_cons.1 h with rfl | h
    · omega
    · have := ih h
      omega
theorem dear_nn : ∀ (l : List Int), 0 ≤ dear l
  | [] => Int.le_refl _
  | x :: l => by have := dear_nn l; unfold dear; omega
theorem sum_dear : ∀ (l : List Int), l.sum ≤ dear l * l.length
  | [] => by simp [dear]
  | x :: l => by
    have h1 := sum_dear l
    have h2 : dear l ≤ dear (x :: l) := by show dear l ≤ max x (dear l); omega
    have h3 : x ≤ dear (x :: l) := by show x ≤ max x (dear l); omega
    have h4 : dear l * l.length ≤ dear (x :: l) * l.length := Int.mul_le_mul_of_nonneg_right h2 (by omega)
    rw [List.sum_cons, List.length_cons]
    push_cast
    rw [Int.mul_add, Int.mul_one]
    omega
/-- no layer costs more than the dearest part -/
theorem each_le (hc : ∀ i, 0 ≤ c i) : ∀ {es : List Nat} {k : Nat}, Chain n k es → ∀ i, k ≤ i → i < n → c i ≤ worst c k es
  | [], k, h, i, h1, h2 => by
    have hk : k = n := h
    omega
  | e :: es, k, ⟨h1, h2, h3⟩, i, h4, h5 => by
    show c i ≤ max (sg c k (e - k)) (worst c e es)
    rcases Nat.lt_or_ge i e with h6 | h6
    · have := sg_one hc (k := k) (d := e - k) (i := i - k) (by omega)
      rw [show k + (i - k) = i by omega] at this
      omega
    · have := each_le hc h3 i h6 h5
      omega
/-- NO CUT IS BETTER -/
theorem cut_best (hc : ∀ i, 0 ≤ c i) {s : Nat} (hs : s + 1 ≤ n) :
    (refBest c n s 0 0).1.length = s + 1 ∧ Chain n 0 (refBest c n s 0 0).1 ∧ (refBest c n s 0 0).2 = dear (costsOf c 0 (refBest c n s 0 0).1) ∧ sg c 0 n ≤ (refBest c n s 0 0).2 * ((s : Int) + 1) ∧
      (∀ i, i < n → c i ≤ (refBest c n s 0 0).2) ∧ ∀ es : List Nat, es.length = s + 1 → Chain n 0 es → (refBest c n s 0 0).2 ≤ dear (costsOf c 0 es) := by
  obtain ⟨h1, h2⟩ := refBest_is (c := c) (n := n) hc s 0 0 (by omega)
  have hnn := worst_nn hc (refBest c n s 0 0).1 0
  have h3 : (refBest c n s 0 0).2 = worst c 0 (refBest c n s 0 0).1 := by rw [h2]; omega
  obtain ⟨h4, h5⟩ := comps_chain.1 h1.mem
  refine ⟨h4, h5, by rw [h3, worst_dear], ?_, fun i hi => by rw [h3]; exact each_le hc h5 i (Nat.zero_le _) hi, fun es e1 e2 => ?_⟩
  · have h6 := sum_dear (costsOf c 0 (refBest c n s 0 0).1)
    rw [costsOf_sum h5, costsOf_length, h4, ← worst_dear, ← h3] at h6
    simpa using h6
  · have h7 : max 0 (worst c 0 (refBest c n s 0 0).1) ≤ max 0 (worst c 0 es) := h1.le (comps_chain.2 ⟨e1, e2⟩)
    have h8 := worst_nn hc es 0
    rw [← worst_dear]
    omega
end
end Gal
