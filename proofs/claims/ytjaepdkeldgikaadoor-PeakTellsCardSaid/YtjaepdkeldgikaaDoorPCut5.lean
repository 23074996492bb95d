/- Plain: what is looked for by halves is the least limit. No program in sight. -/
import Derived.Test.YtjaepdkeldgikaaDoorPCut4
set_option linter.unusedVariables false
set_option linter.unusedSimpArgs false
namespace Gal
theorem count_least {p : Nat → Bool} {m N : Nat} (h1 : ∀ i, i < m → p i = false) (h2 : ∀ i, m ≤ i → i < N → p i = true) (hm : m ≤ N) : (List.range N).countP (fun i => !p i) = m := by
  rw [show N = m + (N - m) by omega, List.range_add, List.countP_append]
  have a1 : (List.range m).countP (fun i => !p i) = m := by
    have := List.countP_eq_length (p := fun i => !p i) (l := List.range m)
    rw [List.length_range] at this
    exact this.2 fun i hi => by rw [h1 i (List.mem_range.1 hi)]; rfl
  have a2 : ((List.range (N - m)).map (m + ·)).countP (fun i => !p i) = 0 := List.countP_eq_zero.2 fun i hi => by
    obtain ⟨j, hj, rfl⟩ := List.mem_map.1 hi
    have := List.mem_range.1 hj
    rw [h2 (m + j) (by omega) (by omega)]
    simp
  rw [a1, a2]
  omega
section
variable {c : Nat → Int} {n : Nat}
theorem tl_more (hc : ∀ i, 0 ≤ c i) {L M : Int} (hL : 0 ≤ L) (hLM : L ≤ M) {s : Nat} (hs : s ≤ n) (h : tl c n L n ≤ s) : tl c n M n ≤ s := by
  have h1 := tl_fits hc hL n s (Nat.le_refl _) h hs
  exact tl_least hc (by omega) s n (Nat.le_refl _) (fits_more hLM h1)
theorem tl_all (hc : ∀ i, 0 ≤ c i) {s : Nat} (hs : s + 1 ≤ n) : tl c n (sg c 0 n) n ≤ s + 1 := by
  have h0 := sg_nn hc 0 n
  have h1 : Fits c n (sg c 0 n) 1 (n - n) := by
    rw [Nat.sub_self]
    exact ⟨n, by omega, by omega, Int.le_refl _, by show 0 + n = n; omega⟩
  have := tl_least hc h0 1 n (Nat.le_refl _) h1
  omega
/-- the search's answer -/
theorem limit_is (hc : ∀ i, 0 ≤ c i) {s all : Nat} (hs : s + 1 ≤ n) (hall : sg c 0 n = all) : ((List.range all).countP (fun (i : Nat) => !decide (tl c n (i : Int) n ≤ s + 1)) : Int) = (refBest c n s 0 0).2 := by
  obtain ⟨h1, h2, h3, _⟩ := best_is (c := c) (n := n) hc hs
  obtain ⟨m, hm⟩ : ∃ m : Nat, (refBest c n s 0 0).2 = m := ⟨(refBest c n s 0 0).2.toNat, by omega⟩
  rw [hm] at h1 h2 h3 ⊢
  have h4 := h3 all (by omega) (by rw [← hall]; exact tl_all hc hs)
  rw [count_least (m := m) (fun i hi => ?_) (fun i hi _ => ?_) (by omega)]
  · refine decide_eq_false fun h5 => ?_
    have := h3 i (by omega) h5
    omega
  · exact decide_eq_true (tl_more hc h1 (by omega) hs h2)
end
end Gal
