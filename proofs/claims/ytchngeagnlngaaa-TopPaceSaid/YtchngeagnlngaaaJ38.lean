/- Texts joined: Cut2. -/
import Derived.Test.YtchngeagnlngaaaJ37
import Derived.Test.YtchngeagnlngaaaJ10
section
set_option linter.unusedVariables false
set_option linter.unusedSimpArgs false
set_option linter.unusedSectionVars false
namespace Gal
def cutW (ys : List Int) (j : Nat) : Nat := (wasAt ys j).toNat
def costAt (c : Nat → Int) (ys : List Int) (i j : Nat) : Int := sg c (cutW ys j) (min i (cutW ys (j + 1)) - cutW ys j)
section
variable {c : Nat → Int} {ys : List Int} {m i k : Nat}
theorem wasAt_nn (h : rises ys m) : ∀ {j : Nat}, j ≤ m → 0 ≤ wasAt ys j
 | 0, _ => Int.le_refl _
 | j + 1, hj => by
  have h1 := wasAt_nn h (show j ≤ m by omega)
  have h2 := h j (by omega)
  show 0 ≤ ix ys j
  omega
theorem cutW_next (h : rises ys m) {j : Nat} (hj : j < m) : cutW ys j < cutW ys (j + 1) ∧ (cutW ys (j + 1) : Int) = ix ys j := by
 have h1 := wasAt_nn h (show j ≤ m by omega)
 have h2 := h j hj
 unfold cutW
 show (wasAt ys j).toNat < (ix ys j).toNat ∧ ((ix ys j).toNat : Int) = ix ys j
 omega
theorem cutW_mono (h : rises ys m) : ∀ {a b : Nat}, a ≤ b → b ≤ m → cutW ys a ≤ cutW ys b
  | a, 0, h1, _ => by obtain rfl : a = 0 := by omega
                      exact Nat.le_refl _
  | a, b + 1, h1, h2 => by
    rcases Nat.lt_or_ge a (b + 1) with h3 | h3
    · have h4 := cutW_mono h (show a ≤ b by omega) (by omega)
      have h5 := (cutW_next h (show b < m by omega)).1
      omega
    · obtain rfl : a = b + 1 := by omega
      exact Nat.le_refl _
theorem cost_none : upto (costAt c ys 0) m = zeros m := by
 rw [zeros_upto]
 refine List.map_congr_left fun j _ => ?_
 unfold costAt
 rw [show min 0 (cutW ys (j + 1)) - cutW ys j = 0 by omega]
 rfl
theorem cost_step (h : rises ys m) (hk : k < m) (h1 : cutW ys k ≤ i) (h2 : i < cutW ys (k + 1)) : (upto (costAt c ys i) m).set k (costAt c ys i k + c i) = upto (costAt c ys (i + 1)) m := by
 rw [upto_set hk]
 refine List.map_congr_left fun j hj => ?_
 have hj' := List.mem_range.1 hj
 by_cases e : j = k
 ·subst e
  rw [if_pos rfl]
  unfold costAt
  rw [show min (i + 1) (cutW ys (j + 1)) - cutW ys j = (min i (cutW ys (j + 1)) - cutW ys j) + 1 by omega, sg_succ, show cutW ys j + (min i (cutW ys (j + 1)) - cutW ys j) = i by omega]
 ·rw [if_neg e]
  unfold costAt
  rcases Nat.lt_or_ge j k with h3 | h3
  ·have h4 := cutW_mono h (show j + 1 ≤ k by omega) (by omega)
   rw [show min (i + 1) (cutW ys (j + 1)) = min i (cutW ys (j + 1)) by omega]
  ·have h4 := cutW_mono h (show k + 1 ≤ j by omega) (by omega)
   rw [show min (i + 1) (cutW ys (j + 1)) - cutW ys j = min i (cutW ys (j + 1)) - cutW ys j by omega]
theorem sg_bd (hc : ∀ i, 0 ≤ c i ∧ c i ≤ 1000000) (k : Nat) : ∀ d : Nat, 0 ≤ sg c k d ∧ sg c k d ≤ 1000000 * d
 | 0 => ⟨Int.le_refl _, by simp [sg]⟩
 | d + 1 => by
  have h1 := sg_bd hc k d
  have h2 := hc (k + d)
  rw [sg_succ]
  push_cast
  omega
theorem cost_bd {s c0 : Int} {d : Nat} (h1 : 0 ≤ s ∧ s ≤ 1000000 * d) (h2 : c0 = s) (h3 : d ≤ 12) : 0 ≤ c0 ∧ c0 ≤ 12000000 := by omega
end
end Gal
namespace Go.Proofs.Ytchngeagnlngaaa
open Go.RowKit Gal
set_option maxRecDepth 100000
set_option maxHeartbeats 2000000
theorem wrap_mid {c x : Int} (h1 : 0 ≤ c) (h2 : c ≤ 12000000) (h3 : 0 ≤ x) (h4 : x ≤ 1000000) : wrap64 (c + x) = c + x := by unfold wrap64; omega
theorem wrap_low {q : Nat} (h : q ≤ 100) : wrap64 (q : Int) = (q : Int) ∧ IntKind.i64.wrap (q : Int) = (q : Int) := ⟨by unfold wrap64; omega, IntWalk.i64_in _ (by omega)⟩
theorem cutCost_ok (xs ys : List Int) (a a' : Option Addr) (n m k k' b b' o o' : Nat) (w : World) (h : IntsAt w a n k b o xs) (h' : IntsAt w a' m k' b' o' ys) (hx : costsFault xs = 0) (hy : endsFault ys n = 0) :
  Calls Try.prog 14 #[.slice a n k, .slice a' m k'] w fun e w' => ∃ q, e = .returned (.tuple #[.slice (some ⟨q, 0, none⟩) m m, .nilIface]) ∧ w.heap.size ≤ q ∧ Box w' q ((upto (costAt (ix xs) ys n) m).map (Value.int .i64)) 3 ∧ Below w.heap.size w w' := by
 have hl := h.len
 have hl' := h'.len
 obtain ⟨y1, y2, y3, y4⟩ : (1 ≤ n ∧ n ≤ 12) ∧ (1 ≤ m ∧ m ≤ 6) ∧ rises ys m ∧ wasAt ys m = n := by
  unfold endsFault at hy
  by_cases h1 : (n : Int) < 1 ∨ 12 < (n : Int)
  ·rw [if_pos h1] at hy; exact absurd hy (by decide)
  ·rw [if_neg h1] at hy
   by_cases h2 : ys.length = 0 ∨ 6 < ys.length
   ·rw [if_pos h2] at hy; exact absurd hy (by decide)
   ·rw [if_neg h2, hl'] at hy
    by_cases h3 : rises ys m ∧ wasAt ys m = n
    ·exact ⟨by omega, by omega, h3.1, h3.2⟩
    ·rw [if_neg h3] at hy; exact absurd hy (by decide)
 have hcb : ∀ i, 0 ≤ ix xs i ∧ ix xs i ≤ 1000000 := fun i => by
  rcases Nat.lt_or_ge i xs.length with h1 | h1
  ·unfold costsFault at hx
   by_cases h2 : costsTo xs xs.length
   ·exact costsTo_iff.1 h2 i h1
   ·rw [if_neg h2] at hx; exact absurd hx (by decide)
  ·have : ix xs i = 0 := by unfold ix; rw [List.getElem?_eq_none h1]; rfl
   omega
 have HY3 := Lib.hid y3
 have HWN : Hid (cutW ys m = n) := Lib.hid (by unfold cutW; rw [y4]; omega)
 have HCB := Lib.hid hcb
 have HX := Lib.hid hx
 have HY := Lib.hid hy
 obtain ⟨i0, hi, hz0, hz1, hz2⟩ := info_parts info_int'
 have hmk := fun W => run_make_rowN (P := Try.prog) 26 3 i0 _ Try.underlying26 hi hz0 .i64 .i64 m m (m : Int) (m : Int) rfl rfl (Nat.le_refl _) (by rw [hz2]; omega) (by omega) W
 rw [hz1, Nat.mul_one] at hmk
 have hmc : (madeCells (Value.int .i64 0).cells m) = ((zeros m).map (Value.int .i64)).toArray := by
  apply Array.toList_inj.1
  show (madeCells #[Value.int .i64 0] m).toList = _
  rw [toList_madeCells_one]
  simp [zeros]
 rw [hmc] at hmk
 clear hmc
 obtain ⟨n1, n2⟩ := y1
 obtain ⟨m1, m2⟩ := y2
 obtain rfl := h.ptr (by omega)
 obtain rfl := h'.ptr (by omega)
 have hlb := h.lt (by omega)
 have hlb' := h'.lt (by omega)
 clear hcb hx hy y3 y4 hl hl'
 go_enter Try.func14, Try.ntmps14
 go_wp2_with fail
 refine (costly_any xs _ _ _ _ _ _ h).mono ?_
 rintro e w1 ⟨rfl, rfl⟩
 rw [errV_nil HX.out]
 go_wp2_with fail
 refine (cutCheck_any ys n _ _ _ _ _ _ h').mono ?_
 rintro e w1 ⟨rfl, rfl⟩
 rw [errV_nil HY.out]
 go_wp2
 go_loopw [9, 29] (fun u i wr => ∃ t k : Nat, t ≤ n ∧ i = .int .i64 t ∧ u = .int .i64 k ∧ k < m ∧ cutW ys k ≤ t ∧ t ≤ cutW ys (k + 1) ∧ Box wr w.heap.size ((upto (costAt (ix xs) ys t) m).map (Value.int .i64)) 3 ∧ Below w.heap.size w wr) (fun _ i _ => n - (intOf i).toNat)
 case atStart => exact ⟨0, 0, Nat.zero_le _, rfl, rfl, by omega, Nat.le_refl _, Nat.zero_le _, by rw [cost_none]; exact Box.new _ _ _, Below.x0⟩
 case round =>
  obtain ⟨t, j, ht, rfl, rfl, hj, hw1, hw2, Bc, hbr⟩ := hrel
  have hnx := cutW_next HY3.out hj
  have hyc := (h'.keep hbr).cell j hj
  have hj0 : (0 : Int) ≤ (j : Int) := by omega
  have hj1 : (j : Int) < (m : Int) := by omega
  by_cases hlt : t < n
  ·have hxc := (h.keep hbr).cell t hlt
   have ht0 : (0 : Int) ≤ (t : Int) := by omega
   have ht1 : (t : Int) < (n : Int) := by omega
   obtain ⟨x0, hx0⟩ : ∃ x0, ix xs t = x0 := ⟨_, rfl⟩
   have hxb := HCB.out t
   rw [hx0] at hxc hxb
   have HX0 := Lib.hid hx0
   clear hx0
   by_cases he : t = cutW ys (j + 1)
   ·have e1 : ((t : Int) == ix ys j) = true := by rw [← hnx.2]; simp [he]
    obtain ⟨q, hq⟩ : ∃ q, q = j + 1 := ⟨_, rfl⟩
    have hqm : q < m := by
     rcases Nat.lt_or_ge q m with h1 | h1
     ·exact h1
     ·obtain rfl : q = m := by omega
      have := HWN.out
      rw [hq] at this
      omega
    have hqn := cutW_next HY3.out hqm
    have hqi : (j : Int) + 1 = (q : Int) := by omega
    have hw3 : cutW ys q ≤ t := by rw [hq]; omega
    have hw4 : t < cutW ys (q + 1) := by have h1 := hqn.1; rw [hq] at h1 ⊢; omega
    have HQ := Lib.hid (And.intro hw3 hw4)
    have HQI := Lib.hid hqi
    have hq0 : (0 : Int) ≤ (q : Int) := by omega
    have hq1 : (q : Int) < (m : Int) := by omega
    have hq100 := wrap_low (show q ≤ 100 by omega)
    have hqw : wrap64 ((j : Int) + 1) = (q : Int) := by rw [hqi]; exact hq100.1
    have hqw' : IntKind.i64.wrap ((j : Int) + 1) = (q : Int) := by rw [hqi]; exact hq100.2
    clear hq100
    clear hw1 hw2 hnx hqn hw3 hw4 he hq hqi
    have cc := Bc.icell (k := q) (by rw [upto_length]; exact hqm)
    rw [upto_ix hqm] at cc
    have cf := Bc.thawed q
    obtain ⟨c0, hc0⟩ : ∃ c0, costAt (ix xs) ys t q = c0 := ⟨_, rfl⟩
    have hcb0 : 0 ≤ c0 ∧ c0 ≤ 12000000 := by
     have h1 := sg_bd HCB.out (cutW ys q) (min t (cutW ys (q + 1)) - cutW ys q)
     have h2 : costAt (ix xs) ys t q = sg (ix xs) (cutW ys q) (min t (cutW ys (q + 1)) - cutW ys q) := rfl
     exact cost_bd h1 (hc0.symm.trans h2) (Nat.le_trans (Nat.sub_le _ _) (Nat.le_trans (Nat.min_le_left _ _) (Nat.le_trans ht n2)))
    rw [hc0] at cc
    have HC0 := Lib.hid hc0
    have hsum : wrap64 (c0 + x0) = c0 + x0 := wrap_mid hcb0.1 hcb0.2 hxb.1 hxb.2
    clear hc0
    go_wp2
    go_roundw
    case rel => exact ⟨t + 1, q, by omega, by go_num, rfl, hqm, by have := HQ.out; omega, by have := HQ.out; omega, by
     have hs := Bc.iset q (c0 + x0)
     have h2 := cost_step (c := ix xs) (i := t) HY3.out hqm HQ.out.1 HQ.out.2
     rw [HC0.out, HX0.out] at h2
     rw [h2] at hs
     exact hs, (Below.y0 hbr)⟩
    case measure => simp [intOf]; omega
   ·have e1 : ((t : Int) == ix ys j) = false := by rw [← hnx.2]; simp; omega
    have HQ := Lib.hid (And.intro hw1 (show t < cutW ys (j + 1) by omega))
    have hqm := hj
    clear hw1 hw2 hnx he
    have cc := Bc.icell (k := j) (by rw [upto_length]; exact hqm)
    rw [upto_ix hqm] at cc
    have cf := Bc.thawed j
    obtain ⟨c0, hc0⟩ : ∃ c0, costAt (ix xs) ys t j = c0 := ⟨_, rfl⟩
    have hcb0 : 0 ≤ c0 ∧ c0 ≤ 12000000 := by
     have h1 := sg_bd HCB.out (cutW ys j) (min t (cutW ys (j + 1)) - cutW ys j)
     have h2 : costAt (ix xs) ys t j = sg (ix xs) (cutW ys j) (min t (cutW ys (j + 1)) - cutW ys j) := rfl
     exact cost_bd h1 (hc0.symm.trans h2) (Nat.le_trans (Nat.sub_le _ _) (Nat.le_trans (Nat.min_le_left _ _) (Nat.le_trans ht n2)))
    rw [hc0] at cc
    have HC0 := Lib.hid hc0
    have hsum : wrap64 (c0 + x0) = c0 + x0 := wrap_mid hcb0.1 hcb0.2 hxb.1 hxb.2
    clear hc0
    go_wp2
    go_roundw
    case rel => exact ⟨t + 1, j, by omega, by go_num, rfl, hqm, by have := HQ.out; omega, by have := HQ.out; omega, by
     have hs := Bc.iset j (c0 + x0)
     have h2 := cost_step (c := ix xs) (i := t) HY3.out hqm HQ.out.1 HQ.out.2
     rw [HC0.out, HX0.out] at h2
     rw [h2] at hs
     exact hs, (Below.y0 hbr)⟩
    case measure => simp [intOf]; omega
  ·obtain rfl : t = n := by omega
   go_wp2
   go_ret2
   exact ⟨_, rfl, Nat.le_refl _, Bc, hbr⟩
end Go.Proofs.Ytchngeagnlngaaa
end
