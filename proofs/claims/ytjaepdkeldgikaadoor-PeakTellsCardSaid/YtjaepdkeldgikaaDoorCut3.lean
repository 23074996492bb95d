/- Contracts of package cut: Best's tails. -/
import Derived.Test.YtjaepdkeldgikaaDoorCut2
set_option linter.unusedVariables false
set_option linter.unusedSimpArgs false
set_option linter.unusedSectionVars false
namespace Gal
/-- the tails from n - d on are reckoned -/
def tailAt (c : Nat → Int) (n : Nat) (L : Int) (d j : Nat) : Int := if n - d ≤ j then (tl c n L (n - j) : Int) else 0
theorem tail_none {c : Nat → Int} {n : Nat} {L : Int} : upto (tailAt c n L 0) (n + 1) = zeros (n + 1) := by
  rw [zeros_upto]
  refine List.map_congr_left fun j hj => ?_
  have := List.mem_range.1 hj
  unfold tailAt
  by_cases h : n - 0 ≤ j
  · rw [if_pos h, show n - j = 0 by omega, tl_zero]
    rfl
  · rw [if_neg h]
theorem tail_step {c : Nat → Int} {n d : Nat} {L : Int} (h : d < n) : (upto (tailAt c n L d) (n + 1)).set (n - 1 - d) (tl c n L (d + 1) : Int) = upto (tailAt c n L (d + 1)) (n + 1) := by
  rw [upto_set (by omega)]
  refine List.map_congr_left fun j hj => ?_
  have := List.mem_range.1 hj
  unfold tailAt
  by_cases e : j = n - 1 - d
  · rw [if_pos e, if_pos (by omega), show n - j = d + 1 by omega]
  · rw [if_neg e]
    by_cases h1 : n - d ≤ j
    · rw [if_pos h1, if_pos (by omega)]
    · rw [if_neg h1, if_neg (by omega)]
theorem gFrom_go {c : Nat → Int} {L : Int} {k d m : Nat} (h : sg c k d + c (k + d) ≤ L) : gFrom c L k d (m + 1) = gFrom c L k (d + 1) m := by rw [gFrom, if_pos h]
theorem gFrom_end {c : Nat → Int} {L : Int} {k d m : Nat} (h : ¬ sg c k d + c (k + d) ≤ L) : gFrom c L k d (m + 1) = d := by rw [gFrom, if_neg h]
theorem tails_n1 {n d p : Nat} (hp : p = n - 1 - d) (hdn : d < n) : d + 1 ≤ n ∧ (p : Int) - 1 = (n : Int) - 1 - ((d + 1 : Nat) : Int) := by omega
theorem tails_gp {c : Nat → Int} {L : Int} {n d p t : Nat} (hp : p = n - 1 - d) (hg : gl c n L p = t) : gl c n L (n - (d + 1)) = t := by rw [show n - (d + 1) = p by omega]; exact hg
theorem tails_no {p q t : Nat} (hq : q = p + t) (ht : t = 0) : ((q : Int) > (p : Int)) = False := by simp; omega
theorem tails_yes {p q t : Nat} (hq : q = p + t) (ht : ¬ t = 0) : (q : Int) > (p : Int) := by omega
theorem tails_read {c : Nat → Int} {L v : Int} {n d p q t : Nat} (hp : p = n - 1 - d) (hdn : d < n) (hq : q = p + t) (ht : ¬ t = 0) (hqn : q ≤ n) : ix ((upto (tailAt c n L d) (n + 1)).set p v) q = (tl c n L (n - q) : Int) := by
  rw [upto_set (by omega), upto_ix (by omega), if_neg (by omega)]
  unfold tailAt
  rw [if_pos (by omega)]
theorem tails_sum {c : Nat → Int} {L : Int} {n d p q t : Nat} (hp : p = n - 1 - d) (hdn : d < n) (hq : q = p + t) (hg : gl c n L (n - (d + 1)) = t) (ht : ¬ t = 0) (hqn : q ≤ n) : tl c n L (d + 1) = 1 + tl c n L (n - q) := by
  rw [tl_some (Nat.succ_ne_zero d) (by rw [hg]; exact ht), hg, show d + 1 - t = n - q by omega]
theorem tl_bd {c : Nat → Int} {L : Int} {n : Nat} : ∀ d, tl c n L d ≤ n + 1 + d := by
  intro d
  induction d using Nat.strongRecOn with
  | ind d ih =>
    by_cases h : d = 0
    · subst h; rw [tl_zero]; omega
    · by_cases hg : gl c n L (n - d) = 0
      · rw [tl_none h hg]; omega
      · rw [tl_some h hg]
        have := ih (d - gl c n L (n - d)) (by omega)
        omega
end Gal
namespace Go.Proofs.YtjaepdkeldgikaaDoor
open Go.RowKit Gal
set_option maxRecDepth 100000
set_option maxHeartbeats 2000000
theorem wrap_pred {p : Nat} (h : p ≤ 100) : wrap64 ((p : Int) - 1) = (p : Int) - 1 := by unfold wrap64; omega
theorem wrap_succ {p : Nat} (h : p ≤ 100) : wrap64 ((p : Int) + 1) = (p : Int) + 1 := by unfold wrap64; omega
theorem wrap_one {p : Nat} (h : p ≤ 100) : wrap64 (1 + (p : Int)) = 1 + (p : Int) := by unfold wrap64; omega
theorem tails_any (xs : List Int) (L : Int) (a : Option Addr) (n k b o pn pc : Nat) (w : World) (hN : Box w pn [.int .i64 n] 3) (hC : Box w pc [.slice a n k] 39) (h : IntsAt w a n k b o xs) (hn : 1 ≤ n ∧ n ≤ 12) (hx : ∀ i, 0 ≤ ix xs i ∧ ix xs i ≤ 1000000) (hL : 0 ≤ L ∧ L ≤ 12000000) :
    Calls Tryd.prog 48 #[.int .i64 L, .pointer (some ⟨pn, 0, none⟩), .pointer (some ⟨pc, 0, none⟩)] w fun e w' => ∃ q, e = .returned (.slice (some ⟨q, 0, none⟩) (n + 1) (n + 1)) ∧ w.heap.size ≤ q ∧ Box w' q ((upto (tailAt (ix xs) n L n) (n + 1)).map (Value.int .i64)) 3 ∧ Below w.heap.size w w' := by
  obtain ⟨n1, n2⟩ := hn
  obtain ⟨l1, l2⟩ := hL
  have HX := Lib.hid hx
  obtain ⟨i0, hi, hz0, hz1, hz2⟩ := info_parts info_int'
  have hmk := fun W => run_make_rowN (P := Tryd.prog) 39 3 i0 _ Tryd.underlying39 hi hz0 .i64 .i64 (n + 1) (n + 1) ((n : Int) + 1) ((n : Int) + 1) (by omega) (by omega) (Nat.le_refl _) (by rw [hz2]; omega) (by omega) W
  rw [hz1, Nat.mul_one] at hmk
  have hmc : (madeCells (Value.int .i64 0).cells (n + 1)) = ((zeros (n + 1)).map (Value.int .i64)).toArray := by
    apply Array.toList_inj.1
    show (madeCells #[Value.int .i64 0] (n + 1)).toList = _
    rw [toList_madeCells_one]
    simp [zeros]
  rw [hmc] at hmk
  clear hmc hx
  have hN := hN
  have hNc := hN.cell
  have hNf := hN.thawed
  have hNz := hN.lt
  have hNk := lt_add hNz
  have hC := hC
  have hCc := hC.cell
  have hCf := hC.thawed
  have hCz := hC.lt
  have hCk := lt_add hCz
  have hlb := h.lt
  obtain ⟨m, hm⟩ : ∃ m : Nat, n = m + 1 := ⟨n - 1, by omega⟩
  have hmw := wrap_low (show m ≤ 100 by omega)
  have e1 : wrap64 ((n : Int) - 1) = (m : Int) := by rw [show (n : Int) - 1 = (m : Int) by omega]; exact hmw.1
  have HM := Lib.hid hm
  clear hmw hm
  go_enter Tryd.func48, Tryd.ntmps48
  go_wp2
  go_loopw [6] (fun i wr => ∃ d : Nat, d ≤ n ∧ i = .int .i64 ((n : Int) - 1 - d) ∧ Box wr w.heap.size ((upto (tailAt (ix xs) n L d) (n + 1)).map (Value.int .i64)) 3 ∧ Below w.heap.size w wr) (fun i _ => (intOf i + 1).toNat)
  case atStart => exact ⟨0, Nat.zero_le _, (by have := HM.out; congr 1; omega), by rw [tail_none]; exact Box.new _ _ _, (by repeat (first | fail | (with_reducible exact Below.refl _ _) | (with_reducible refine Below.al ?_ _) | (with_reducible refine Below.drN ?_ _) | (with_reducible refine Below.drew ?_) | (with_reducible refine Below.st ?_ ?_ _; rotate_left 1; (first | (dsimp only; omega) | omega | (simp; omega) | simp)) | exact Below.refl _ _))⟩
  case round =>
    obtain ⟨d, hd, rfl, Bq, hbr⟩ := hrel
    clear e1
    by_cases hlt : d < n
    · obtain ⟨p, hp⟩ : ∃ p, p = n - 1 - d := ⟨_, rfl⟩
      have hpi : (n : Int) - 1 - (d : Int) = (p : Int) := by omega
      rw [hpi]
      have hp0 : (0 : Int) ≤ (p : Int) := by omega
      have hp1 : (p : Int) < (n : Int) + 1 := by omega
      have hpn : p < n := by omega
      have hkwr : Below w.heap.size w wr := (by repeat (first | fail | (with_reducible exact Below.refl _ _) | (with_reducible refine Below.al ?_ _) | (with_reducible refine Below.drN ?_ _) | (with_reducible refine Below.drew ?_) | (with_reducible refine Below.st ?_ ?_ _; rotate_left 1; (first | (dsimp only; omega) | omega | (simp; omega) | simp)) | (with_reducible refine Below.go ?_ hbr) | exact Below.refl _ _))
      replace hN := hN.keep hkwr
      replace hNc := hN.cell
      replace hNf := hN.thawed
      replace hNz := hN.lt
      replace hNk := lt_add hNz
      replace hC := hC.keep hkwr
      replace hCc := hC.cell
      replace hCf := hC.thawed
      replace hCz := hC.lt
      replace hCk := lt_add hCz
      replace h := h.keep hkwr
      have hdn := Lib.hid hlt
      replace hp := Lib.hid hp
      clear hlt hpi
      go_wp2
      go_loopw [7, 8] (fun s e wi => ∃ t q : Nat, q = p + t ∧ q ≤ n ∧ s = .int .i64 (sg (ix xs) p t) ∧ e = .int .i64 q ∧ gFrom (ix xs) L p t (n - q) = gl (ix xs) n L p ∧ sg (ix xs) p t ≤ L ∧ wr = wi) (fun _ e _ => n - (intOf e).toNat)
      case atStart => exact ⟨0, p, rfl, by omega, rfl, rfl, rfl, l1, rfl⟩
      case round =>
        obtain ⟨t, q, hq, hqn, rfl, rfl, hg, hs, rfl⟩ := hrel
        have hsb := sg_bd HX.out p t
        have ht12 : t ≤ 12 := by omega
        have hsb1 : 0 ≤ sg (ix xs) p t := hsb.1
        have hsb2 : sg (ix xs) p t ≤ 12000000 := by omega
        have hq0 : (0 : Int) ≤ (q : Int) := by omega
        have hq1 : (q : Int) < (n : Int) + 1 := by omega
        by_cases hq2 : q < n
        · obtain rfl := h.ptr (by omega)
          have hc := h.cell q hq2
          obtain ⟨c0, hc0⟩ : ∃ c0, ix xs q = c0 := ⟨_, rfl⟩
          have hxb := HX.out q
          rw [hc0] at hc hxb
          have hqi : (q : Int) < (n : Int) := by omega
          have HC0 : Hid (ix xs (p + t) = c0) := Lib.hid (by rw [← hq]; exact hc0)
          have hsum : wrap64 (sg (ix xs) p t + c0) = sg (ix xs) p t + c0 := wrap_mid hsb1 hsb2 hxb.1 hxb.2
          have HQ := Lib.hid hq
          have HG : Hid (gFrom (ix xs) L p t (n - q - 1 + 1) = gl (ix xs) n L p) := Lib.hid (by rw [show n - q - 1 + 1 = n - q by omega]; exact hg)
          have HQ2 := Lib.hid hq2
          clear hc0 hq hg hsb hq2
          by_cases hle : sg (ix xs) p t + c0 ≤ L
          · have HLE := Lib.hid hle
            go_wp2
            go_roundw
            case rel => exact ⟨t + 1, q + 1, by have := HQ.out; omega, HQ2.out, by rw [sg_succ, HC0.out], by go_num, by
              have h1 := HG.out
              rw [gFrom_go (by rw [HC0.out]; exact HLE.out)] at h1
              rw [show n - (q + 1) = n - q - 1 by omega]
              exact h1, by rw [sg_succ, HC0.out]; exact HLE.out, (by first | rfl | trivial)⟩
            case measure => simp [intOf]; have := HQ2.out; omega
          · have hle' : (sg (ix xs) p t + c0 ≤ L) = False := by simp; omega
            have HGL : Hid (gl (ix xs) n L p = t) := Lib.hid (by rw [← HG.out]; exact gFrom_end (by rw [HC0.out]; exact hle))
            have HSUM := Lib.hid hsum
            clear hle hsum
            have HN1 := Lib.hid (tails_n1 hp.out hdn.out)
            have hqt := HQ.out
            have cp := Bq.icell (k := p) (by rw [upto_length]; exact Nat.lt_succ_of_lt hpn)
            rw [upto_ix (Nat.lt_succ_of_lt hpn)] at cp
            have cf := Bq.thawed
            have HGP := Lib.hid (tails_gp (c := ix xs) (L := L) hp.out HGL.out)
            have HTS := Lib.hid (tail_step (c := ix xs) (n := n) (L := L) hdn.out)
            rw [← hp.out] at HTS
            by_cases ht : t = 0
            · have g1 : ((q : Int) > (p : Int)) = False := tails_no hqt ht
              have HT := Lib.hid (tl_none (c := ix xs) (n := n) (L := L) (Nat.succ_ne_zero d) (by rw [HGP.out]; exact ht))
              clear ht hqt
              have hsum := HSUM.out
              go_wp2
              go_roundw
              case rel => exact ⟨d + 1, HN1.out.1, by rw [← HN1.out.2], by
                have hs := Bq.iset p ((n : Int) + 1)
                have h2 := HTS.out
                rw [HT.out] at h2
                rw [← h2]
                exact hs, (by repeat (first | fail | (with_reducible exact Below.refl _ _) | (with_reducible exact hbr) | (with_reducible refine Below.al ?_ _) | (with_reducible refine Below.drN ?_ _) | (with_reducible refine Below.drew ?_) | (with_reducible refine Below.st ?_ ?_ _; rotate_left 1; (first | (dsimp only; omega) | omega | (simp; omega) | simp)) | exact Below.refl _ _ | exact hbr))⟩
              case measure => (try clear hsum); simp [intOf] <;> omega
            · have g1 : (q : Int) > (p : Int) := tails_yes hqt ht
              obtain ⟨m0, hm0⟩ : ∃ m0, tl (ix xs) n L (n - q) = m0 := ⟨_, rfl⟩
              have HT := Lib.hid (tails_sum hp.out hdn.out hqt HGP.out ht hqn)
              have HR := tails_read (c := ix xs) (L := L) (v := (n : Int) + 1) hp.out hdn.out hqt ht hqn
              rw [hm0] at HT HR
              have hm1 : m0 ≤ 100 := by rw [← hm0]; exact Nat.le_trans (tl_bd _) (by omega)
              obtain ⟨wq, hwq, Bq', hbq⟩ : ∃ wq, wr.setCell ⟨w.heap.size, p, none⟩ (.int .i64 ((n : Int) + 1)) = wq ∧ Box wq w.heap.size (((upto (tailAt (ix xs) n L d) (n + 1)).set p ((n : Int) + 1)).map (Value.int .i64)) 3 ∧ Below w.heap.size w wq := ⟨_, rfl, Bq.iset p _, (by repeat (first | fail | (with_reducible exact Below.refl _ _) | (with_reducible exact hbr) | (with_reducible refine Below.al ?_ _) | (with_reducible refine Below.drN ?_ _) | (with_reducible refine Below.drew ?_) | (with_reducible refine Below.st ?_ ?_ _; rotate_left 1; (first | (dsimp only; omega) | omega | (simp; omega) | simp)) | exact Below.refl _ _ | exact hbr))⟩
              have cq := Bq'.icell (k := q) (by rw [List.length_set, upto_length]; exact Nat.lt_succ_of_le hqn)
              rw [HR] at cq
              have cf' := Bq'.thawed
              have hp2 := Bq'.icell (k := p) (by rw [List.length_set, upto_length]; exact Nat.lt_succ_of_lt hpn)
              clear ht hqt hm0 HR
              have hsum := HSUM.out
              go_wp2
              go_roundw
              case rel => exact ⟨d + 1, HN1.out.1, by rw [← HN1.out.2], by
                have hs := Bq'.iset p (1 + (m0 : Int))
                have h2 := HTS.out
                rw [HT.out] at h2
                rw [List.set_set] at hs
                rw [← h2]
                push_cast
                exact hs, (by repeat (first | fail | (with_reducible exact Below.refl _ _) | (with_reducible exact hbq) | (with_reducible refine Below.al ?_ _) | (with_reducible refine Below.drN ?_ _) | (with_reducible refine Below.drew ?_) | (with_reducible refine Below.st ?_ ?_ _; rotate_left 1; (first | (dsimp only; omega) | omega | (simp; omega) | simp)) | exact Below.refl _ _ | exact hbq))⟩
              case measure => (try clear hsum); simp [intOf] <;> omega
        · have HGL : Hid (gl (ix xs) n L p = t) := Lib.hid (by rw [← hg, show n - q = 0 by omega]; rfl)
          have HQ := Lib.hid hq
          have hqi : ((q : Int) < (n : Int)) = False := by simp; omega
          clear hq hg hsb hq2
          have HN1 := Lib.hid (tails_n1 hp.out hdn.out)
          have hqt := HQ.out
          have cp := Bq.icell (k := p) (by rw [upto_length]; exact Nat.lt_succ_of_lt hpn)
          rw [upto_ix (Nat.lt_succ_of_lt hpn)] at cp
          have cf := Bq.thawed
          have HGP := Lib.hid (tails_gp (c := ix xs) (L := L) hp.out HGL.out)
          have HTS := Lib.hid (tail_step (c := ix xs) (n := n) (L := L) hdn.out)
          rw [← hp.out] at HTS
          by_cases ht : t = 0
          · have g1 : ((q : Int) > (p : Int)) = False := tails_no hqt ht
            have HT := Lib.hid (tl_none (c := ix xs) (n := n) (L := L) (Nat.succ_ne_zero d) (by rw [HGP.out]; exact ht))
            clear ht hqt
            skip
            go_wp2
            go_roundw
            case rel => exact ⟨d + 1, HN1.out.1, by rw [← HN1.out.2], by
              have hs := Bq.iset p ((n : Int) + 1)
              have h2 := HTS.out
              rw [HT.out] at h2
              rw [← h2]
              exact hs, (by repeat (first | fail | (with_reducible exact Below.refl _ _) | (with_reducible exact hbr) | (with_reducible refine Below.al ?_ _) | (with_reducible refine Below.drN ?_ _) | (with_reducible refine Below.drew ?_) | (with_reducible refine Below.st ?_ ?_ _; rotate_left 1; (first | (dsimp only; omega) | omega | (simp; omega) | simp)) | exact Below.refl _ _ | exact hbr))⟩
            case measure => (try clear hsum); simp [intOf] <;> omega
          · have g1 : (q : Int) > (p : Int) := tails_yes hqt ht
            obtain ⟨m0, hm0⟩ : ∃ m0, tl (ix xs) n L (n - q) = m0 := ⟨_, rfl⟩
            have HT := Lib.hid (tails_sum hp.out hdn.out hqt HGP.out ht hqn)
            have HR := tails_read (c := ix xs) (L := L) (v := (n : Int) + 1) hp.out hdn.out hqt ht hqn
            rw [hm0] at HT HR
            have hm1 : m0 ≤ 100 := by rw [← hm0]; exact Nat.le_trans (tl_bd _) (by omega)
            obtain ⟨wq, hwq, Bq', hbq⟩ : ∃ wq, wr.setCell ⟨w.heap.size, p, none⟩ (.int .i64 ((n : Int) + 1)) = wq ∧ Box wq w.heap.size (((upto (tailAt (ix xs) n L d) (n + 1)).set p ((n : Int) + 1)).map (Value.int .i64)) 3 ∧ Below w.heap.size w wq := ⟨_, rfl, Bq.iset p _, (by repeat (first | fail | (with_reducible exact Below.refl _ _) | (with_reducible exact hbr) | (with_reducible refine Below.al ?_ _) | (with_reducible refine Below.drN ?_ _) | (with_reducible refine Below.drew ?_) | (with_reducible refine Below.st ?_ ?_ _; rotate_left 1; (first | (dsimp only; omega) | omega | (simp; omega) | simp)) | exact Below.refl _ _ | exact hbr))⟩
            have cq := Bq'.icell (k := q) (by rw [List.length_set, upto_length]; exact Nat.lt_succ_of_le hqn)
            rw [HR] at cq
            have cf' := Bq'.thawed
            have hp2 := Bq'.icell (k := p) (by rw [List.length_set, upto_length]; exact Nat.lt_succ_of_lt hpn)
            clear ht hqt hm0 HR
            skip
            go_wp2
            go_roundw
            case rel => exact ⟨d + 1, HN1.out.1, by rw [← HN1.out.2], by
              have hs := Bq'.iset p (1 + (m0 : Int))
              have h2 := HTS.out
              rw [HT.out] at h2
              rw [List.set_set] at hs
              rw [← h2]
              push_cast
              exact hs, (by repeat (first | fail | (with_reducible exact Below.refl _ _) | (with_reducible exact hbq) | (with_reducible refine Below.al ?_ _) | (with_reducible refine Below.drN ?_ _) | (with_reducible refine Below.drew ?_) | (with_reducible refine Below.st ?_ ?_ _; rotate_left 1; (first | (dsimp only; omega) | omega | (simp; omega) | simp)) | exact Below.refl _ _ | exact hbq))⟩
            case measure => (try clear hsum); simp [intOf] <;> omega
    · obtain rfl : d = n := by omega
      have hpi : (d : Int) - 1 - (d : Int) = -1 := by omega
      rw [hpi]
      go_wp2
      go_ret
      exact ⟨_, rfl, Nat.le_refl _, Bq, hbr⟩
end Go.Proofs.YtjaepdkeldgikaaDoor
