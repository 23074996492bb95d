/- Texts joined: Cut6. -/
import Derived.Test.YtchngeagnlngaaaJ40
section
set_option linter.unusedVariables false
set_option linter.unusedSimpArgs false
set_option linter.unusedSectionVars false
namespace Gal
def cw (k : Nat) : List Nat → Nat → Nat
 | _, 0 => k
 | [], _ + 1 => 0
 | e :: es, j + 1 => cw e es j
section
variable {c : Nat → Int} {n : Nat}
theorem cw_is : ∀ (es : List Nat) (k j : Nat), cw k es (j + 1) = es[j]?.getD 0
 | [], k, j => by simp [cw]
 | e :: es, k, 0 => by simp [cw]
 | e :: es, k, j + 1 => by
  rw [cw, cw_is es e j]
  simp
theorem costsOf_ix : ∀ (es : List Nat) (k j : Nat), j < es.length → ix (costsOf c k es) j = sg c (cw k es j) (cw k es (j + 1) - cw k es j)
 | [], k, j, h => absurd h (Nat.not_lt_zero _)
 | e :: es, k, 0, h => by simp [costsOf, ix, cw]
 | e :: es, k, j + 1, h => by
  have := costsOf_ix es e j (by simpa using h)
  rw [show ix (costsOf c k (e :: es)) (j + 1) = ix (costsOf c e es) j by simp [ix, costsOf]]
  rw [this]
  rfl
theorem ints_ix (es : List Nat) (j : Nat) : ix (ints es) j = ((es[j]?.getD 0 : Nat) : Int) := by
 unfold ix ints
 rw [List.getElem?_map]
 cases es[j]? <;> rfl
theorem cutW_ints (es : List Nat) : ∀ j, cutW (ints es) j = cw 0 es j
 | 0 => by simp [cutW, wasAt, cw]
 | j + 1 => by
  unfold cutW
  show (ix (ints es) j).toNat = _
  rw [ints_ix, cw_is, Int.toNat_natCast]
theorem chain_cw : ∀ {es : List Nat} {k : Nat}, Chain n k es → (∀ j, j < es.length → cw k es j < cw k es (j + 1) ∧ cw k es (j + 1) ≤ n) ∧ cw k es es.length = n
 | [], k, h => ⟨fun j hj => absurd hj (Nat.not_lt_zero _), h⟩
 | e :: es, k, ⟨h1, h2, h3⟩ => by
  obtain ⟨a1, a2⟩ := chain_cw h3
  refine ⟨fun j hj => ?_, a2⟩
  cases j with
  | zero => cases es <;> exact ⟨h1, h2⟩
  | succ j => exact a1 j (by simpa using hj)
theorem costs_chain {es : List Nat} (h : Chain n 0 es) : upto (costAt c (ints es) n) es.length = costsOf c 0 es := by
 rw [← upto_self (xs := costsOf c 0 es), costsOf_length]
 refine upto_congr fun j hj => ?_
 obtain ⟨h1, _⟩ := chain_cw h
 rw [costsOf_ix es 0 j hj]
 unfold costAt
 rw [cutW_ints, cutW_ints, show min n (cw 0 es (j + 1)) = cw 0 es (j + 1) by have := (h1 j hj).2; omega]
theorem chain_ends {es : List Nat} (h : Chain n 0 es) (h1 : 1 ≤ es.length) (h2 : es.length ≤ 6) (hn : 1 ≤ n ∧ n ≤ 12) : endsFault (ints es) n = 0 := by
 obtain ⟨a1, a2⟩ := chain_cw h
 have hw : ∀ j, wasAt (ints es) j = (cw 0 es j : Int) := fun j => by
  cases j with
  | zero => simp [wasAt, cw]
  | succ j => show ix (ints es) j = _; rw [ints_ix, cw_is]
 refine endsFault_0 (by omega) (by rw [ints_length]; omega) ⟨fun t ht => ?_, by rw [ints_length, hw, a2]⟩
 rw [ints_length] at ht
 have h3 := (a1 t ht).1
 have h4 : ix (ints es) t = wasAt (ints es) (t + 1) := rfl
 rw [h4, hw, hw]
 omega
end
theorem best_all {c : Nat → Int} {n s : Nat} (hc : ∀ i, 0 ≤ c i ∧ c i ≤ 1000000) (h1 : 1 ≤ s) (h2 : s ≤ n) (hn : n ≤ 12) :
  ∃ es, picks c n (lim c n s) s 0 = es ∧ es.length = s ∧ Chain n 0 es ∧ (lim c n s : Int) = dear (costsOf c 0 es) ∧ (costsOf c 0 es).sum ≤ (lim c n s : Int) * s ∧ (∀ i, i < n → c i ≤ (lim c n s : Int)) ∧ (∀ es', es'.length = s → Chain n 0 es' → (lim c n s : Int) ≤ dear (costsOf c 0 es')) ∧ (lim c n s : Int) ≤ 12000000 := by
 obtain ⟨r, rfl⟩ : ∃ r, s = r + 1 := ⟨s - 1, by omega⟩
 have hc0 : ∀ i, 0 ≤ c i := fun i => (hc i).1
 have hl := lim_is (c := c) hc0 h2
 obtain ⟨_, _, _, b4⟩ := best_is (c := c) hc0 h2
 obtain ⟨a1, a2, a3, a4, a5, a6⟩ := cut_best (c := c) hc0 h2
 rw [← hl] at a3 a4 a5 a6 b4
 refine ⟨_, b4, a1, a2, a3, ?_, a5, a6, ?_⟩
 ·rw [costsOf_sum a2, Nat.sub_zero]
  push_cast
  exact a4
 ·have h3 := lim_le (c := c) (n := n) (s := r + 1)
  have h4 := sg_bd hc 0 n
  omega
section
variable {c : Nat → Int} {n : Nat}
def bestFault (xs : List Int) (s : Int) : Int := if (s < 1 ∨ 6 < s) ∨ (xs.length < 1 ∨ 12 < xs.length) then 1 else if costsFault xs ≠ 0 then costsFault xs else if (xs.length : Int) < s then 2 else 0
end
end Gal
namespace Go.Proofs.Ytchngeagnlngaaa
open Go.RowKit Gal
set_option maxRecDepth 100000
set_option maxHeartbeats 4000000
theorem cutBest_bad (xs : List Int) (s : Int) (a : Option Addr) (n k b o : Nat) (w : World) (h : IntsAt w a n k b o xs) (hf : bestFault xs s ≠ 0) :
  Calls Try.prog 13 #[.slice a n k, .int .i64 s] w fun e w' => e = .returned (.tuple #[.slice none 0 0, .int .i64 0, errV (bestFault xs s)]) ∧ Below w.heap.size w w' := by
 have hl := h.len
 have hmx := h.max
 unfold maxLen at hmx
 unfold bestFault at hf ⊢
 rw [hl] at hf ⊢
 by_cases h1 : (s < 1 ∨ 6 < s) ∨ (n < 1 ∨ 12 < n)
 ·rw [if_pos h1, errV_err (by decide)]
  by_cases g1 : s < 1
  ·clear hf h1 hl hmx
   go_enter Try.func13, Try.ntmps13
   go_wp2
   go_ret3
   exact ⟨rfl, Below.x0⟩
  ·have e1 : (s < 1) = False := by simp; omega
   by_cases g2 : s > 6
   ·clear hf h1 hl hmx g1
    go_enter Try.func13, Try.ntmps13
    go_wp2
    go_ret3
    exact ⟨rfl, Below.x0⟩
   ·have e2 : (s > 6) = False := by simp; omega
    by_cases g3 : n < 1
    ·have e3 : (n : Int) < 1 := by omega
     clear hf h1 hl hmx g1 g2
     go_enter Try.func13, Try.ntmps13
     go_wp2
     go_ret3
     exact ⟨rfl, Below.x0⟩
    ·have e3 : ((n : Int) < 1) = False := by simp; omega
     have e4 : (n : Int) > 12 := by omega
     clear hf h1 hl hmx g1 g2
     go_enter Try.func13, Try.ntmps13
     go_wp2
     go_ret3
     exact ⟨rfl, Below.x0⟩
 ·rw [if_neg h1] at hf ⊢
  have e1 : (s < 1) = False := by simp; omega
  have e2 : (s > 6) = False := by simp; omega
  have e3 : ((n : Int) < 1) = False := by simp; omega
  have e4 : ((n : Int) > 12) = False := by simp; omega
  by_cases hx : costsFault xs = 0
  ·rw [if_neg (by simp [hx])] at hf ⊢
   by_cases h2 : (n : Int) < s
   ·rw [if_pos h2, errV_err (by decide)]
    have e5 : s > (n : Int) := h2
    have HX := Lib.hid hx
    clear hf h1 hl hx h2
    go_enter Try.func13, Try.ntmps13
    go_wp2_with fail
    refine (costly_any xs _ _ _ _ _ _ ((h.alloc _).alloc _)).mono ?_
    rintro e w1 ⟨rfl, rfl⟩
    rw [errV_nil HX.out]
    go_wp2
    go_ret3
    exact ⟨rfl, Below.x0⟩
   ·rw [if_neg h2] at hf
    exact absurd rfl hf
  ·rw [if_pos hx]
   have HX := Lib.hid hx
   clear hf h1 hl hx
   go_enter Try.func13, Try.ntmps13
   go_wp2_with fail
   refine (costly_any xs _ _ _ _ _ _ ((h.alloc _).alloc _)).mono ?_
   rintro e w1 ⟨rfl, rfl⟩
   rw [errV_err HX.out]
   go_wp2
   go_ret3
   exact ⟨by rw [errV_err HX.out]; rfl, Below.x0⟩
end Go.Proofs.Ytchngeagnlngaaa
end
