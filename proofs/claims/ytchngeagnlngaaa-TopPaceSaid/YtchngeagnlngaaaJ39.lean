/- Texts joined: Cut3, Cut4, PCut6. -/
import Derived.Test.YtchngeagnlngaaaJ38
import Derived.Deep.RegionHeld3
import Derived.Deep.RegionWith
import Derived.Deep.DeepMust
import Derived.Test.YtchngeagnlngaaaJ37
section
set_option linter.unusedVariables false
set_option linter.unusedSimpArgs false
set_option linter.unusedSectionVars false
namespace Gal
def tailAt (c : Nat → Int) (n : Nat) (L : Int) (d j : Nat) : Int := if n - d ≤ j then (tl c n L (n - j) : Int) else 0
theorem tail_none {c : Nat → Int} {n : Nat} {L : Int} : upto (tailAt c n L 0) (n + 1) = zeros (n + 1) := by
 rw [zeros_upto]
 refine List.map_congr_left fun j hj => ?_
 have := List.mem_range.1 hj
 unfold tailAt
 by_cases h : n - 0 ≤ j
 ·rw [if_pos h, show n - j = 0 by omega, tl_zero]
  rfl
 ·rw [if_neg h]
theorem tail_step {c : Nat → Int} {n d : Nat} {L : Int} (h : d < n) : (upto (tailAt c n L d) (n + 1)).set (n - 1 - d) (tl c n L (d + 1) : Int) = upto (tailAt c n L (d + 1)) (n + 1) := by
 rw [upto_set (by omega)]
 refine List.map_congr_left fun j hj => ?_
 have := List.mem_range.1 hj
 unfold tailAt
 by_cases e : j = n - 1 - d
 ·rw [if_pos e, if_pos (by omega), show n - j = d + 1 by omega]
 ·rw [if_neg e]
  by_cases h1 : n - d ≤ j
  ·rw [if_pos h1, if_pos (by omega)]
  ·rw [if_neg h1, if_neg (by omega)]
theorem gFrom_go {c : Nat → Int} {L : Int} {k d m : Nat} (h : sg c k d + c (k + d) ≤ L) : gFrom c L k d (m + 1) = gFrom c L k (d + 1) m := by rw [gFrom, if_pos h]
theorem gFrom_end {c : Nat → Int} {L : Int} {k d m : Nat} (h : ¬ sg c k d + c (k + d) ≤ L) : gFrom c L k d (m + 1) = d := by rw [gFrom, if_neg h]
theorem tails_n1 {n d p : Nat} (hp : p = n - 1 - d) (hdn : d < n) : d + 1 ≤ n ∧ (p : Int) - 1 = (n : Int) - 1 - ((d + 1 : Nat) : Int) := by omega
theorem tails_gp {c : Nat → Int} {L : Int} {n d p t : Nat} (hp : p = n - 1 - d) (hg : gl c n L p = t) : gl c n L (n - (d + 1)) = t := by rw [show n - (d + 1) = p by omega]; exact hg
theorem tails_no {p q t : Nat} (hq : q = p + t) (ht : t = 0) : ((q : Int) > (p : Int)) = False := by simp; omega
theorem tails_yes {p q t : Nat} (hq : q = p + t) (ht : ¬ t = 0) : (q : Int) > (p : Int) := by omega
theorem tails_read {c : Nat → Int} {L v : Int} {n d p q t : Nat} (hp : p = n - 1 - d) (hdn : d < n) (hq : q = p + t) (ht : ¬ t = 0) (hqn : q ≤ n) : ix ((upto (tailAt c n L d) (n + 1)).set p v) q = (tl c n L (n - q) : Int) := by
 rw [upto_set (by omega), upto_ix (by omega), if_neg (by omega)]
 unfold tailAt
 rw [if_pos (by omega)]
theorem tails_sum {c : Nat → Int} {L : Int} {n d p q t : Nat} (hp : p = n - 1 - d) (hdn : d < n) (hq : q = p + t) (hg : gl c n L (n - (d + 1)) = t) (ht : ¬ t = 0) (hqn : q ≤ n) : tl c n L (d + 1) = 1 + tl c n L (n - q) := by
 rw [tl_some (Nat.succ_ne_zero d) (by rw [hg]; exact ht), hg, show d + 1 - t = n - q by omega]
theorem tl_bd {c : Nat → Int} {L : Int} {n : Nat} : ∀ d, tl c n L d ≤ n + 1 + d := by
 intro d
 induction d using Nat.strongRecOn with
 | ind d ih =>
  by_cases h : d = 0
  ·subst h; rw [tl_zero]; omega
  ·by_cases hg : gl c n L (n - d) = 0
   ·rw [tl_none h hg]; omega
   ·rw [tl_some h hg]
    have := ih (d - gl c n L (n - d)) (by omega)
    omega
end Gal
namespace Go.Proofs.Ytchngeagnlngaaa
open Go.RowKit Gal
set_option maxRecDepth 100000
set_option maxHeartbeats 2000000
theorem tails_any (xs : List Int) (L : Int) (a : Option Addr) (n k b o pn pc : Nat) (w : World) (hN : Box w pn [.int .i64 n] 3) (hC : Box w pc [.slice a n k] 26) (h : IntsAt w a n k b o xs) (hn : 1 ≤ n ∧ n ≤ 12) (hx : ∀ i, 0 ≤ ix xs i ∧ ix xs i ≤ 1000000) (hL : 0 ≤ L ∧ L ≤ 12000000) :
  Calls Try.prog 42 #[.int .i64 L, .pointer (some ⟨pn, 0, none⟩), .pointer (some ⟨pc, 0, none⟩)] w fun e w' => ∃ q, e = .returned (.slice (some ⟨q, 0, none⟩) (n + 1) (n + 1)) ∧ w.heap.size ≤ q ∧ Box w' q ((upto (tailAt (ix xs) n L n) (n + 1)).map (Value.int .i64)) 3 ∧ Below w.heap.size w w' := by
 obtain ⟨n1, n2⟩ := hn
 obtain ⟨l1, l2⟩ := hL
 have HX := Lib.hid hx
 obtain ⟨i0, hi, hz0, hz1, hz2⟩ := info_parts info_int'
 have hmk := fun W => run_make_rowN (P := Try.prog) 26 3 i0 _ Try.underlying26 hi hz0 .i64 .i64 (n + 1) (n + 1) ((n : Int) + 1) ((n : Int) + 1) (by omega) (by omega) (Nat.le_refl _) (by rw [hz2]; omega) (by omega) W
 rw [hz1, Nat.mul_one] at hmk
 have hmc : (madeCells (Value.int .i64 0).cells (n + 1)) = ((zeros (n + 1)).map (Value.int .i64)).toArray := by
  apply Array.toList_inj.1
  show (madeCells #[Value.int .i64 0] (n + 1)).toList = _
  rw [toList_madeCells_one]
  simp [zeros]
 rw [hmc] at hmk
 clear hmc hx
 have hN := hN
 have hNc := hN.cell
 have hNf := hN.thawed
 have hNz := hN.lt
 have hNk := lt_add hNz
 have hC := hC
 have hCc := hC.cell
 have hCf := hC.thawed
 have hCz := hC.lt
 have hCk := lt_add hCz
 have hlb := h.lt
 obtain ⟨m, hm⟩ : ∃ m : Nat, n = m + 1 := ⟨n - 1, by omega⟩
 have hmw := wrap_low (show m ≤ 100 by omega)
 have e1 : wrap64 ((n : Int) - 1) = (m : Int) := by rw [show (n : Int) - 1 = (m : Int) by omega]; exact hmw.1
 have HM := Lib.hid hm
 clear hmw hm
 go_enter Try.func42, Try.ntmps42
 go_wp2
 go_loopw [6] (fun i wr => ∃ d : Nat, d ≤ n ∧ i = .int .i64 ((n : Int) - 1 - d) ∧ Box wr w.heap.size ((upto (tailAt (ix xs) n L d) (n + 1)).map (Value.int .i64)) 3 ∧ Below w.heap.size w wr) (fun i _ => (intOf i + 1).toNat)
 case atStart => exact ⟨0, Nat.zero_le _, (by have := HM.out; congr 1; omega), by rw [tail_none]; exact Box.new _ _ _, Below.x0⟩
 case round =>
  obtain ⟨d, hd, rfl, Bq, hbr⟩ := hrel
  clear e1
  by_cases hlt : d < n
  ·obtain ⟨p, hp⟩ : ∃ p, p = n - 1 - d := ⟨_, rfl⟩
   have hpi : (n : Int) - 1 - (d : Int) = (p : Int) := by omega
   rw [hpi]
   have hp0 : (0 : Int) ≤ (p : Int) := by omega
   have hp1 : (p : Int) < (n : Int) + 1 := by omega
   have hpn : p < n := by omega
   have hkwr : Below w.heap.size w wr := (Below.x1 hbr)
   replace hN := hN.keep hkwr
   replace hNc := hN.cell
   replace hNf := hN.thawed
   replace hNz := hN.lt
   replace hNk := lt_add hNz
   replace hC := hC.keep hkwr
   replace hCc := hC.cell
   replace hCf := hC.thawed
   replace hCz := hC.lt
   replace hCk := lt_add hCz
   replace h := h.keep hkwr
   have hdn := Lib.hid hlt
   replace hp := Lib.hid hp
   clear hlt hpi
   go_wp2
   go_loopw [7, 8] (fun s e wi => ∃ t q : Nat, q = p + t ∧ q ≤ n ∧ s = .int .i64 (sg (ix xs) p t) ∧ e = .int .i64 q ∧ gFrom (ix xs) L p t (n - q) = gl (ix xs) n L p ∧ sg (ix xs) p t ≤ L ∧ wr = wi) (fun _ e _ => n - (intOf e).toNat)
   case atStart => exact ⟨0, p, rfl, by omega, rfl, rfl, rfl, l1, rfl⟩
   case round =>
    obtain ⟨t, q, hq, hqn, rfl, rfl, hg, hs, rfl⟩ := hrel
    have hsb := sg_bd HX.out p t
    have ht12 : t ≤ 12 := by omega
    have hsb1 : 0 ≤ sg (ix xs) p t := hsb.1
    have hsb2 : sg (ix xs) p t ≤ 12000000 := by omega
    have hq0 : (0 : Int) ≤ (q : Int) := by omega
    have hq1 : (q : Int) < (n : Int) + 1 := by omega
    by_cases hq2 : q < n
    ·obtain rfl := h.ptr (by omega)
     have hc := h.cell q hq2
     obtain ⟨c0, hc0⟩ : ∃ c0, ix xs q = c0 := ⟨_, rfl⟩
     have hxb := HX.out q
     rw [hc0] at hc hxb
     have hqi : (q : Int) < (n : Int) := by omega
     have HC0 : Hid (ix xs (p + t) = c0) := Lib.hid (by rw [← hq]; exact hc0)
     have hsum : wrap64 (sg (ix xs) p t + c0) = sg (ix xs) p t + c0 := wrap_mid hsb1 hsb2 hxb.1 hxb.2
     have HQ := Lib.hid hq
     have HG : Hid (gFrom (ix xs) L p t (n - q - 1 + 1) = gl (ix xs) n L p) := Lib.hid (by rw [show n - q - 1 + 1 = n - q by omega]; exact hg)
     have HQ2 := Lib.hid hq2
     clear hc0 hq hg hsb hq2
     by_cases hle : sg (ix xs) p t + c0 ≤ L
     ·have HLE := Lib.hid hle
      go_wp2
      go_roundw
      case rel => exact ⟨t + 1, q + 1, by have := HQ.out; omega, HQ2.out, by rw [sg_succ, HC0.out], by go_num, by
       have h1 := HG.out
       rw [gFrom_go (by rw [HC0.out]; exact HLE.out)] at h1
       rw [show n - (q + 1) = n - q - 1 by omega]
       exact h1, by rw [sg_succ, HC0.out]; exact HLE.out, (by first | rfl | trivial)⟩
      case measure => simp [intOf]; have := HQ2.out; omega
     ·have hle' : (sg (ix xs) p t + c0 ≤ L) = False := by simp; omega
      have HGL : Hid (gl (ix xs) n L p = t) := Lib.hid (by rw [← HG.out]; exact gFrom_end (by rw [HC0.out]; exact hle))
      have HSUM := Lib.hid hsum
      clear hle hsum
      have HN1 := Lib.hid (tails_n1 hp.out hdn.out)
      have hqt := HQ.out
      have cp := Bq.icell (k := p) (by rw [upto_length]; exact Nat.lt_succ_of_lt hpn)
      rw [upto_ix (Nat.lt_succ_of_lt hpn)] at cp
      have cf := Bq.thawed
      have HGP := Lib.hid (tails_gp (c := ix xs) (L := L) hp.out HGL.out)
      have HTS := Lib.hid (tail_step (c := ix xs) (n := n) (L := L) hdn.out)
      rw [← hp.out] at HTS
      by_cases ht : t = 0
      ·have g1 : ((q : Int) > (p : Int)) = False := tails_no hqt ht
       have HT := Lib.hid (tl_none (c := ix xs) (n := n) (L := L) (Nat.succ_ne_zero d) (by rw [HGP.out]; exact ht))
       clear ht hqt
       have hsum := HSUM.out
       go_wp2
       go_roundw
       case rel => exact ⟨d + 1, HN1.out.1, by rw [← HN1.out.2], by
        have hs := Bq.iset p ((n : Int) + 1)
        have h2 := HTS.out
        rw [HT.out] at h2
        rw [← h2]
        exact hs, (Below.y0 hbr)⟩
       case measure => (try clear hsum); simp [intOf] <;> omega
      ·have g1 : (q : Int) > (p : Int) := tails_yes hqt ht
       obtain ⟨m0, hm0⟩ : ∃ m0, tl (ix xs) n L (n - q) = m0 := ⟨_, rfl⟩
       have HT := Lib.hid (tails_sum hp.out hdn.out hqt HGP.out ht hqn)
       have HR := tails_read (c := ix xs) (L := L) (v := (n : Int) + 1) hp.out hdn.out hqt ht hqn
       rw [hm0] at HT HR
       have hm1 : m0 ≤ 100 := by rw [← hm0]; exact Nat.le_trans (tl_bd _) (by omega)
       obtain ⟨wq, hwq, Bq', hbq⟩ : ∃ wq, wr.setCell ⟨w.heap.size, p, none⟩ (.int .i64 ((n : Int) + 1)) = wq ∧ Box wq w.heap.size (((upto (tailAt (ix xs) n L d) (n + 1)).set p ((n : Int) + 1)).map (Value.int .i64)) 3 ∧ Below w.heap.size w wq := ⟨_, rfl, Bq.iset p _, (Below.y0 hbr)⟩
       have cq := Bq'.icell (k := q) (by rw [List.length_set, upto_length]; exact Nat.lt_succ_of_le hqn)
       rw [HR] at cq
       have cf' := Bq'.thawed
       have hp2 := Bq'.icell (k := p) (by rw [List.length_set, upto_length]; exact Nat.lt_succ_of_lt hpn)
       clear ht hqt hm0 HR
       have hsum := HSUM.out
       go_wp2
       go_roundw
       case rel => exact ⟨d + 1, HN1.out.1, by rw [← HN1.out.2], by
        have hs := Bq'.iset p (1 + (m0 : Int))
        have h2 := HTS.out
        rw [HT.out] at h2
        rw [List.set_set] at hs
        rw [← h2]
        push_cast
        exact hs, (Below.y0 hbq)⟩
       case measure => (try clear hsum); simp [intOf] <;> omega
    ·have HGL : Hid (gl (ix xs) n L p = t) := Lib.hid (by rw [← hg, show n - q = 0 by omega]; rfl)
     have HQ := Lib.hid hq
     have hqi : ((q : Int) < (n : Int)) = False := by simp; omega
     clear hq hg hsb hq2
     have HN1 := Lib.hid (tails_n1 hp.out hdn.out)
     have hqt := HQ.out
     have cp := Bq.icell (k := p) (by rw [upto_length]; exact Nat.lt_succ_of_lt hpn)
     rw [upto_ix (Nat.lt_succ_of_lt hpn)] at cp
     have cf := Bq.thawed
     have HGP := Lib.hid (tails_gp (c := ix xs) (L := L) hp.out HGL.out)
     have HTS := Lib.hid (tail_step (c := ix xs) (n := n) (L := L) hdn.out)
     rw [← hp.out] at HTS
     by_cases ht : t = 0
     ·have g1 : ((q : Int) > (p : Int)) = False := tails_no hqt ht
      have HT := Lib.hid (tl_none (c := ix xs) (n := n) (L := L) (Nat.succ_ne_zero d) (by rw [HGP.out]; exact ht))
      clear ht hqt
      skip
      go_wp2
      go_roundw
      case rel => exact ⟨d + 1, HN1.out.1, by rw [← HN1.out.2], by
       have hs := Bq.iset p ((n : Int) + 1)
       have h2 := HTS.out
       rw [HT.out] at h2
       rw [← h2]
       exact hs, (Below.y0 hbr)⟩
      case measure => (try clear hsum); simp [intOf] <;> omega
     ·have g1 : (q : Int) > (p : Int) := tails_yes hqt ht
      obtain ⟨m0, hm0⟩ : ∃ m0, tl (ix xs) n L (n - q) = m0 := ⟨_, rfl⟩
      have HT := Lib.hid (tails_sum hp.out hdn.out hqt HGP.out ht hqn)
      have HR := tails_read (c := ix xs) (L := L) (v := (n : Int) + 1) hp.out hdn.out hqt ht hqn
      rw [hm0] at HT HR
      have hm1 : m0 ≤ 100 := by rw [← hm0]; exact Nat.le_trans (tl_bd _) (by omega)
      obtain ⟨wq, hwq, Bq', hbq⟩ : ∃ wq, wr.setCell ⟨w.heap.size, p, none⟩ (.int .i64 ((n : Int) + 1)) = wq ∧ Box wq w.heap.size (((upto (tailAt (ix xs) n L d) (n + 1)).set p ((n : Int) + 1)).map (Value.int .i64)) 3 ∧ Below w.heap.size w wq := ⟨_, rfl, Bq.iset p _, (Below.y0 hbr)⟩
      have cq := Bq'.icell (k := q) (by rw [List.length_set, upto_length]; exact Nat.lt_succ_of_le hqn)
      rw [HR] at cq
      have cf' := Bq'.thawed
      have hp2 := Bq'.icell (k := p) (by rw [List.length_set, upto_length]; exact Nat.lt_succ_of_lt hpn)
      clear ht hqt hm0 HR
      skip
      go_wp2
      go_roundw
      case rel => exact ⟨d + 1, HN1.out.1, by rw [← HN1.out.2], by
       have hs := Bq'.iset p (1 + (m0 : Int))
       have h2 := HTS.out
       rw [HT.out] at h2
       rw [List.set_set] at hs
       rw [← h2]
       push_cast
       exact hs, (Below.y0 hbq)⟩
      case measure => (try clear hsum); simp [intOf] <;> omega
  ·obtain rfl : d = n := by omega
   have hpi : (d : Int) - 1 - (d : Int) = -1 := by omega
   rw [hpi]
   go_wp2
   go_ret
   exact ⟨_, rfl, Nat.le_refl _, Bq, hbr⟩
end Go.Proofs.Ytchngeagnlngaaa
end
section
set_option linter.unusedVariables false
set_option linter.unusedSimpArgs false
set_option linter.unusedSectionVars false
namespace Go.Proofs.Ytchngeagnlngaaa
open Go.RowKit Gal
set_option maxRecDepth 100000
set_option maxHeartbeats 2000000
theorem best2_any (xs : List Int) (L : Int) (a : Option Addr) (n k b o pn pc pt ps s : Nat) (T T' : TypeId) (w : World) (hN : Box w pn [.int .i64 n] 3) (hC : Box w pc [.slice a n k] 26) (hT : Box w pt [.func (.func 42) #[] #[.pointer (some ⟨pn, 0, none⟩), .pointer (some ⟨pc, 0, none⟩)]] T) (hS : Box w ps [.int .i64 s] T')
  (h : IntsAt w a n k b o xs) (hn : 1 ≤ n ∧ n ≤ 12) (hx : ∀ i, 0 ≤ ix xs i ∧ ix xs i ≤ 1000000) (hL : 0 ≤ L ∧ L ≤ 12000000) :
  Calls Try.prog 44 #[.int .i64 L, .pointer (some ⟨pt, 0, none⟩), .pointer (some ⟨ps, 0, none⟩)] w fun e w' => e = .returned (.bool (decide (tl (ix xs) n L n ≤ s))) ∧ Below w.heap.size w w' := by
 obtain ⟨m0, hm0⟩ : ∃ m0, tl (ix xs) n L n = m0 := ⟨_, rfl⟩
 have HM := Lib.hid hm0
 have HT : Hid (ix (upto (tailAt (ix xs) n L n) (n + 1)) 0 = (m0 : Int)) := Lib.hid (by rw [upto_ix (by omega), ← hm0]; unfold tailAt; rw [if_pos (by omega)]; rfl)
 rw [hm0]
 have ct : w.cell? ⟨pt, 0, none⟩ = some (.func (.func 42) #[] #[.pointer (some ⟨pn, 0, none⟩), .pointer (some ⟨pc, 0, none⟩)]) := (hT.cell 0).trans rfl
 have cs : w.cell? ⟨ps, 0, none⟩ = some (.int .i64 s) := (hS.cell 0).trans rfl
 clear hm0
 go_enter Try.func44, Try.ntmps44
 go_wp2_with fail
 go_region_with ((go_at_call 42; go_must (refine (tails_any xs L a n k b o pn pc _ hN.drew hC.drew h.drew hn hx hL).mono ?_); go_must (rintro e w1 ⟨q, rfl, hq, Bq, hb1⟩); go_must (have cq := Bq.icell (k := 0) (by rw [upto_length]; exact Nat.succ_pos _)); go_must (rw [HT.out] at cq); go_must (have cs1 : w1.cell? ⟨ps, 0, none⟩ = some (.int .i64 s) := ((hS.drew.keep hb1).cell 0).trans rfl)))
 all_goals
  go_wp2
  go_ret
  exact ⟨rfl, (Below.x1 hb1)⟩
theorem search_any (p : Nat → Bool) (n : Nat) (c0 c1 : Value) (w : World) (hn : n ≤ 12000000)
  (hf : ∀ (i : Nat) (W : World), i < n → Below w.heap.size w W → Calls Try.prog 44 #[.int .i64 i, c0, c1] W fun e w' => e = .returned (.bool (p i)) ∧ Below w.heap.size w w')
  (hmono : ∀ a b, a ≤ b → b < n → p a = true → p b = true) :
  Calls Try.prog 43 #[.int .i64 n, .func (.func 44) #[] #[c0, c1]] w fun e w' => e = .returned (.int .i64 ((List.range n).countP (fun i => !p i) : Nat)) ∧ Below w.heap.size w w' := by
 have HF := Lib.hid hf
 have HM := Lib.hid hmono
 obtain ⟨cnt, hcnt⟩ : ∃ cnt, (List.range n).countP (fun i => !p i) = cnt := ⟨_, rfl⟩
 rw [hcnt]
 have CN := Lib.hid hcnt
 clear hf hmono hcnt
 go_enter Try.func43, Try.ntmps43
 go_wp2
 go_loopw [5, 6] (fun s5 s6 wr => ∃ (lo hi : Nat), s5 = .int .i64 lo ∧ s6 = .int .i64 hi ∧ lo ≤ hi ∧ hi ≤ n ∧ Hid ((∀ t, t < lo → p t = false) ∧ (∀ t, hi ≤ t → t < n → p t = true)) ∧ Below w.heap.size w wr) (fun s5 s6 _ => (intOf s6 - intOf s5).toNat)
 case atStart => exact ⟨0, n, rfl, rfl, Nat.zero_le _, Nat.le_refl _, Lib.hid ⟨fun t ht => absurd ht (Nat.not_lt_zero _), fun t h1 h2 => absurd h2 (by omega)⟩, Below.x0⟩
 case round =>
  obtain ⟨lo, hi, rfl, rfl, hlh, hin, I, hbr⟩ := hrel
  by_cases hlt : lo < hi
  ·have hc := HF.out ((lo + hi) / 2) wr (by omega) hbr
   obtain ⟨m, hm⟩ : ∃ m, (lo + hi) / 2 = m := ⟨_, rfl⟩
   have hmi : ((lo : Int) + (hi : Int)) / 2 = (m : Int) := by omega
   have hm1 : lo ≤ m := by omega
   have hm2 : m < hi := by omega
   rw [hm] at hc
   cases hp : p m
   ·rw [hp] at hc
    have HP := Lib.hid hp
    have HC := Lib.hid hc
    clear hp hm hc
    go_wp2_with fail
    refine HC.out.mono ?_
    rintro e w1 ⟨rfl, hb1⟩
    clear hmi
    go_wp2
    go_roundw
    case rel => exact ⟨m + 1, hi, by go_num, rfl, by omega, hin, Lib.hid ⟨fun t ht => (by
      cases h : p t with
      | false => rfl
      | true => have := HM.out t m (by omega) (by omega) h; rw [HP.out] at this; cases this), I.out.2⟩, hb1⟩
    case measure => simp [intOf]; omega
   ·rw [hp] at hc
    have HP := Lib.hid hp
    have HC := Lib.hid hc
    clear hp hm hc
    go_wp2_with fail
    refine HC.out.mono ?_
    rintro e w1 ⟨rfl, hb1⟩
    clear hmi
    go_wp2
    go_roundw
    case rel => exact ⟨lo, m, rfl, rfl, by omega, by omega, Lib.hid ⟨I.out.1, fun t ht htn => HM.out m t ht htn HP.out⟩, hb1⟩
    case measure => simp [intOf]; omega
  ·obtain rfl : hi = lo := by omega
   have ecnt : cnt = hi := by
    rw [← CN.out]
    exact count_least I.out.1 I.out.2 hin
   subst ecnt
   go_wp2
   go_ret
   exact ⟨rfl, hbr⟩
end Go.Proofs.Ytchngeagnlngaaa
end
section
set_option linter.unusedVariables false
set_option linter.unusedSimpArgs false
namespace Gal
def picksOk (c : Nat → Int) (n : Nat) (L : Int) (s k j : Nat) : Prop := sg c k (j + 1) ≤ L ∧ tl c n L (n - (k + 1 + j)) ≤ s ∧ s ≤ n - (k + 1 + j)
section
variable {c : Nat → Int} {n : Nat} {L : Int}
theorem tl_pos {d : Nat} (h : d ≠ 0) : 1 ≤ tl c n L d := by
 by_cases hg : gl c n L (n - d) = 0
 ·rw [tl_none h hg]; omega
 ·rw [tl_some h hg]; omega
theorem pick_some (hc : ∀ i, 0 ≤ c i) (hL : 0 ≤ L) {s k : Nat} (h : Fits c n L (s + 1) k) :
  ∃ j, picks c n L (s + 1) k = (k + 1 + j) :: picks c n L s (k + 1 + j) ∧ k + 1 + j ≤ n ∧ Fits c n L s (k + 1 + j) ∧ picksOk c n L s k j ∧ ∀ i, i < j → ¬ picksOk c n L s k i := by
 have hsome : pickAt c n L s k ≠ none := fun h0 => by
  obtain ⟨d, d1, d2, d3, d4⟩ := h
  have h1 := List.find?_eq_none.1 h0 (d - 1) (List.mem_range.2 (by omega))
  simp only [decide_eq_true_eq] at h1
  have hfit := fits_iff (c := c) (n := n) (L := L) hc hL (d := n - (k + 1 + (d - 1))) (s := s) (by omega)
  rw [show n - (n - (k + 1 + (d - 1))) = k + d by omega] at hfit
  refine h1 ⟨?_, hfit.1 d4⟩
  rw [show d - 1 + 1 = d by omega]
  exact d3
 cases hp : pickAt c n L s k with
 | none => exact absurd hp hsome
 | some j =>
  have hp' := hp
  unfold pickAt at hp'
  obtain ⟨h1, h2, h3⟩ := List.find?_range_eq_some.1 hp'
  simp only [decide_eq_true_eq] at h1
  have hj := List.mem_range.1 h2
  refine ⟨j, by rw [picks_succ, hp], by omega, ?_, h1, fun i hi h4 => ?_⟩
  ·have hfit := fits_iff (c := c) (n := n) (L := L) hc hL (d := n - (k + 1 + j)) (s := s) (by omega)
   rw [show n - (n - (k + 1 + j)) = k + 1 + j by omega] at hfit
   exact hfit.2 h1.2
  ·have h5 := h3 i hi
   simp only [Bool.not_eq_true', decide_eq_false_iff_not] at h5
   exact h5 h4
theorem picks_last {k j : Nat} (hk : k + 1 + j ≤ n) : picksOk c n L 0 k j ↔ sg c k (j + 1) ≤ L ∧ k + 1 + j = n := by
 unfold picksOk
 constructor
 ·intro ⟨h1, h2, _⟩
  refine ⟨h1, ?_⟩
  by_cases h : n - (k + 1 + j) = 0
  ·omega
  ·have := tl_pos (c := c) (n := n) (L := L) h
   omega
 ·intro ⟨h1, h2⟩
  rw [h2, Nat.sub_self, tl_zero]
  exact ⟨h1, Nat.le_refl _, Nat.le_refl _⟩
end
end Gal
end
