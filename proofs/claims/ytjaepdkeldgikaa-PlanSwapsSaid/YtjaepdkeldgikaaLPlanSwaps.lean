/- PlanSwaps: what can be done still can, when a Backward that stands right behind a Forward of another part is moved ahead of it at the last stage: the law returns true, and nothing that was there has changed. No condition. -/
import Derived.Test.YtjaepdkeldgikaaRows
import Derived.Test.YtjaepdkeldgikaaPlan7
import Derived.Test.YtjaepdkeldgikaaPPlan5
import Derived.Test.YtjaepdkeldgikaaSameI
import Derived.Test.YtjaepdkeldgikaaOpen
set_option linter.unusedVariables false
set_option linter.unusedSimpArgs false
set_option linter.unusedSectionVars false
namespace Gal
open Go
theorem set2_cell {w : World} {g k : Nat} {u v : Value} {c d : Value} (h0 : w.cell? ⟨g, k * 2, none⟩ = some c) (h1 : w.cell? ⟨g, k * 2 + 1, none⟩ = some d) :
    ((w.setCell ⟨g, k * 2, none⟩ u).setCell ⟨g, k * 2 + 1, none⟩ v).cell? ⟨g, k * 2, none⟩ = some u ∧ ((w.setCell ⟨g, k * 2, none⟩ u).setCell ⟨g, k * 2 + 1, none⟩ v).cell? ⟨g, k * 2 + 1, none⟩ = some v ∧
      ∀ b i, (b ≠ g ∨ (i ≠ k * 2 ∧ i ≠ k * 2 + 1)) → ((w.setCell ⟨g, k * 2, none⟩ u).setCell ⟨g, k * 2 + 1, none⟩ v).cell? ⟨b, i, none⟩ = w.cell? ⟨b, i, none⟩ := by
  have e1 : (w.setCell ⟨g, k * 2, none⟩ u).cell? ⟨g, k * 2 + 1, none⟩ = some d := by
    rw [World.cell?_setCell_other _ _ _ _ (by simp), h1]
  refine ⟨?_, World.cell?_setCell_same _ _ _ e1, fun b i hbi => ?_⟩
  · rw [World.cell?_setCell_other _ _ _ _ (by simp)]
    exact World.cell?_setCell_same _ _ _ h0
  · rw [World.cell?_setCell_other _ _ _ _ (by simp only [ne_eq, Addr.mk.injEq]; omega), World.cell?_setCell_other _ _ _ _ (by simp only [ne_eq, Addr.mk.injEq]; omega)]
theorem act_put {w : World} {F : Nat → Prop} {g n cap : Nat} {l : List ActD} (h : RowAt Form.act w F (some ⟨g, 0, none⟩) n cap g 0 l) {k : Nat} (hk : k < n) (z : ActD) :
    RowAt Form.act ((w.setCell ⟨g, k * 2, none⟩ (.int .i64 z.1)).setCell ⟨g, k * 2 + 1, none⟩ (.int .i64 z.2)) F (some ⟨g, 0, none⟩) n cap g 0 (l.set k z) := by
  obtain ⟨c0, c1⟩ := act_cells h hk
  rw [Nat.zero_add] at c0 c1
  obtain ⟨q0, q1, q2⟩ := set2_cell (u := .int .i64 z.1) (v := .int .i64 z.2) c0 c1
  have hl := h.len
  refine ⟨by rw [List.length_set]; exact hl, h.le, h.maxc, fun _ => rfl, fun hn => by simpa [World.setCell] using h.lt hn, h.blk, fun i x hx => ?_⟩
  have hi : i < n := by
    rcases Nat.lt_or_ge i n with h1 | h1
    · exact h1
    · rw [List.getElem?_eq_none (by rw [List.length_set, hl]; exact h1)] at hx; cases hx
  have hxi : x = ax (l.set k z) i := by
    have := ax_get (l := l.set k z) (i := i) (by rw [List.length_set, hl]; exact hi)
    rw [hx] at this
    simpa using this
  refine ⟨[.int .i64 x.1, .int .i64 x.2], ⟨[.int .i64 x.1], [.int .i64 x.2], rfl, rfl, rfl⟩, fun j hj => ?_⟩
  rw [ax_set (by rw [hl]; exact hk)] at hxi
  obtain ⟨d0, d1⟩ := act_cells h hi
  rw [Nat.zero_add] at d0 d1
  have hj2 : j < 2 := hj
  rw [show Form.act.size = 2 from rfl, Nat.zero_add]
  by_cases e : i = k
  · subst e
    rw [if_pos rfl] at hxi
    subst hxi
    rcases (by omega : j = 0 ∨ j = 1) with rfl | rfl
    · exact q0.trans rfl
    · exact q1.trans rfl
  · rw [if_neg e] at hxi
    subst hxi
    rw [q2 g (i * 2 + j) (Or.inr ⟨by omega, by omega⟩)]
    rcases (by omega : j = 0 ∨ j = 1) with rfl | rfl
    · exact d0.trans rfl
    · exact d1.trans rfl
/-- another last stage -/
theorem last_put {w w' : World} {s cap b g c : Nat} {hs : List RowD} {st st' : List ActD} (h : RowAt Form.hdr w anyB (some ⟨b, 0, none⟩) (s + 1) cap b 0 hs) (hr : Rising hs) (hb : ∀ y ∈ hs, y.1.1 ≠ b) (hl : hs[s]? = some ((g, c), st))
    (hw : ∀ i, i ≠ g → w'.heap[i]? = w.heap[i]?) (hsz : w'.heap.size = w.heap.size) (hst : RowAt Form.act w' anyB (some ⟨g, 0, none⟩) st.length c g 0 st') : RowAt Form.plan w' anyB (some ⟨b, 0, none⟩) (s + 1) cap b 0 ((hs.map (·.2)).set s st') := by
  have hlen := h.len
  have hgb : g ≠ b := hb _ (List.mem_of_getElem? hl)
  refine ⟨by rw [List.length_set, List.length_map]; exact hlen, h.le, h.maxc, fun _ => rfl, fun hn => by rw [hsz]; exact h.lt hn, fun _ => trivial, fun i x hx => ?_⟩
  have hi : i < s + 1 := by
    rcases Nat.lt_or_ge i (s + 1) with h1 | h1
    · exact h1
    · rw [List.getElem?_eq_none (by rw [List.length_set, List.length_map, hlen]; exact h1)] at hx; cases hx
  obtain ⟨y, hy⟩ : ∃ y, hs[i]? = some y := ⟨hs[i], List.getElem?_eq_getElem (by omega)⟩
  obtain ⟨cs, ⟨rfl, hrow, _⟩, hc⟩ := h.cell i y hy
  have hcell : ∀ j, j < 1 → w'.cell? ⟨b, 0 + i * 1 + j, none⟩ = [Value.slice (some ⟨y.1.1, 0, none⟩) y.2.length y.1.2][j]? := fun j hj =>
    (World.cell?_of_block (a := ⟨b, 0 + i * 1 + j, none⟩) (hw b (fun e => hgb e.symm))).trans (hc j hj)
  rw [List.getElem?_set, List.length_map] at hx
  by_cases e : s = i
  · subst e
    rw [if_pos rfl, if_pos (by omega)] at hx
    simp only [Option.some.injEq] at hx
    subst hx
    rw [hl] at hy
    simp only [Option.some.injEq] at hy
    subst hy
    exact ⟨_, ⟨_, _, _, _, _, rfl, hst⟩, hcell⟩
  · rw [if_neg e, List.getElem?_map, hy] at hx
    simp only [Option.map_some, Option.some.injEq] at hx
    subst hx
    have hne : y.1.1 ≠ g := by
      have h1 : (hs.map (·.1.1))[i]? = some y.1.1 := by rw [List.getElem?_map, hy]; rfl
      have h2 : (hs.map (·.1.1))[s]? = some g := by rw [List.getElem?_map, hl]; rfl
      obtain ⟨i1, i2⟩ := List.getElem?_eq_some_iff.1 h1
      obtain ⟨s1, s2⟩ := List.getElem?_eq_some_iff.1 h2
      have h3 := List.pairwise_iff_getElem.1 hr i s i1 s1 (by omega)
      omega
    refine ⟨_, ⟨some ⟨y.1.1, 0, none⟩, y.2.length, y.1.2, y.1.1, 0, rfl, ?_⟩, hcell⟩
    refine ⟨hrow.len, hrow.le, hrow.maxc, hrow.ptr, fun hn => by rw [hsz]; exact hrow.lt hn, hrow.blk, fun i2 x2 hx2 => ?_⟩
    obtain ⟨cs, h4, h5⟩ := hrow.cell i2 x2 hx2
    refine ⟨cs, ?_, fun j hj => (World.cell?_of_block (hw _ hne)).trans (h5 j hj)⟩
    obtain ⟨c', d', rfl, rfl, rfl⟩ := h4
    exact ⟨_, _, rfl, rfl, rfl⟩
end Gal
namespace Go.Proofs.Ytjaepdkeldgikaa.lawPlanSwaps
open Go.ChangeShapes Go.WideShapes Go.ChangeAt Go.RowKit Gal
set_option maxRecDepth 100000
set_option maxHeartbeats 8000000
theorem walk (S M at0 : Int) (w : World) (hS : (Lit.int IntKind.i64 S).wf = true) (hM : (Lit.int IntKind.i64 M).wf = true) (hA : (Lit.int IntKind.i64 at0).wf = true) : Calls Try.prog 3 #[.int .i64 S, .int .i64 M, .int .i64 at0] w fun e w' => e = .returned (.bool true) ∧ Below w.heap.size w w' := by
  have hA' : -9223372036854775808 ≤ at0 ∧ at0 ≤ 9223372036854775807 := by
    simp [Lit.wf, IntKind.min, IntKind.max, IntKind.signed, IntKind.bits] at hA
    exact hA
  have HA := Lib.hid hA'
  clear hS hM hA hA'
  by_cases hf : (1 ≤ S ∧ S ≤ 6) ∧ 1 ≤ M ∧ M ≤ 12
  · obtain ⟨s, rfl⟩ : ∃ s : Nat, S = s := ⟨S.toNat, by omega⟩
    obtain ⟨m, rfl⟩ : ∃ m : Nat, M = m := ⟨M.toNat, by omega⟩
    have hs : 1 ≤ s ∧ s ≤ 6 := by omega
    have hm : 1 ≤ m ∧ m ≤ 12 := by omega
    clear hf
    go_enter Try.func3, Try.ntmps3
    go_wp2_with fail
    refine (planFact_any w).mono ?_
    rintro e w1 ⟨rfl, hb1⟩
    go_wp2_with fail
    refine (planWave_ok s m _ hs hm).mono ?_
    rintro e w2 ⟨v, rfl, ⟨a, kp, b, hds, rfl, hmap, hris, hnb, hrow, hbb⟩, hb2⟩
    obtain rfl := hrow.ptr hs.1
    obtain ⟨r, rfl⟩ : ∃ r, s = r + 1 := ⟨s - 1, by omega⟩
    obtain ⟨⟨⟨g, c⟩, st⟩, hlast⟩ : ∃ y, hds[r]? = some y := ⟨hds[r]'(by rw [hrow.len]; omega), List.getElem?_eq_getElem (by rw [hrow.len]; omega)⟩
    obtain ⟨cs, ⟨rfl, hact, hfro⟩, hc⟩ := hrow.cell r _ hlast
    have c0 : w2.cell? ⟨b, r, none⟩ = some (.slice (some ⟨g, 0, none⟩) st.length c) := by
      have h1 := hc 0 (by decide)
      rw [show Form.hdr.size = 1 from rfl, Nat.mul_one, Nat.add_zero, Nat.zero_add] at h1
      exact h1
    have hst : st = stageTo m m m := by
      have h1 : (hds.map (·.2))[r]? = some st := by rw [List.getElem?_map, hlast]; rfl
      rw [hmap] at h1
      unfold waveOf aheadOf at h1
      simp at h1
      exact h1.symm
    have hsl : st.length = 2 * m := by rw [hst, stageTo_length (Nat.le_refl _)]; unfold nxtA; rw [if_neg (by omega)]; omega
    have hact' : RowAt Form.act w2 anyB (some ⟨g, 0, none⟩) (2 * m) c g 0 st := by rw [← hsl]; exact hact
    rw [hsl] at c0
    have HROW := Lib.hid (by have := hdr_plan hrow; rw [hmap] at this; exact this : RowAt Form.plan w2 anyB (some ⟨b, 0, none⟩) (r + 1) kp b 0 (waveOf (r + 1) m))
    have HH := Lib.hid hrow
    have HMAP := Lib.hid hmap
    have HRIS := Lib.hid hris
    have HNB := Lib.hid fun y hy => (hnb y hy).2
    have HLAST := Lib.hid hlast
    have HST := Lib.hid hst
    have HSL := Lib.hid hsl
    have HFR := Lib.hid (hfro (by show 0 < st.length; omega))
    have HBG : Hid (w.heap.size ≤ g) := Lib.hid (by have h1 := (hnb _ (List.mem_of_getElem? hlast)).1; have h2 := hb1.size; dsimp only at h1; omega)
    clear hmap hris hnb hrow hlast hact hfro hc hst hsl
    have hp1 : (0 : Int) < 2 * (m : Int) - 1 := by omega
    go_wp2_with fail
    refine (pick_any at0 (2 * (m : Int) - 1) _ HA.out.1 HA.out.2 hp1 (by omega)).mono ?_
    rintro e w3 ⟨rfl, rfl⟩
    obtain ⟨k0, hk0⟩ : ∃ k0 : Nat, pickOf at0 (2 * (m : Int) - 1) = k0 ∧ (k0 : Int) < 2 * (m : Int) - 1 := by
      have h1 : 0 ≤ pickOf at0 (2 * (m : Int) - 1) := Int.emod_nonneg _ (by omega)
      have h2 : pickOf at0 (2 * (m : Int) - 1) < 2 * (m : Int) - 1 := Int.emod_lt_of_pos _ hp1
      exact ⟨(pickOf at0 (2 * (m : Int) - 1)).toNat, by omega, by omega⟩
    obtain ⟨hk1, hk2⟩ := hk0
    rw [hk1]
    clear hk1 hp1
    obtain ⟨k, hk⟩ : ∃ k, k0 + 1 = k := ⟨_, rfl⟩
    have hki : (1 : Int) + (k0 : Int) = (k : Int) := by omega
    have hkj : (k : Int) - 1 = (k0 : Int) := by omega
    have hkw : IntKind.i64.wrap ((k : Int) - 1) = (k0 : Int) := by rw [hkj]; exact IntWalk.i64_in _ (by omega)
    have hk3 : (k : Int) < 2 * (m : Int) := by omega
    have hk4 : (0 : Int) ≤ (k : Int) := by omega
    have hk5 : (0 : Int) ≤ (k0 : Int) := by omega
    have hk6 : (k0 : Int) < 2 * (m : Int) := by omega
    have HK := Lib.hid hk
    obtain ⟨d0, d1⟩ := act_cells hact' (t := k) (by omega)
    obtain ⟨e0, e1⟩ := act_cells hact' (t := k0) (by omega)
    rw [Nat.zero_add] at d0 d1 e0 e1
    obtain ⟨⟨x0, x1⟩, hx⟩ : ∃ x, ax st k = x := ⟨_, rfl⟩
    obtain ⟨⟨y0, y1⟩, hy⟩ : ∃ x, ax st k0 = x := ⟨_, rfl⟩
    rw [hx] at d0 d1
    rw [hy] at e0 e1
    dsimp only at d0 d1 e0 e1
    have HX := Lib.hid hx
    have HY := Lib.hid hy
    have HACT := Lib.hid hact'
    clear hx hy hk hact'
    by_cases j1 : x0 = 2
    · have f1 : (x0 == 2) = true := by simp [j1]
      by_cases j2 : y0 = 1
      · have f2 : (y0 == 1) = true := by simp [j2]
        by_cases j3 : x1 = y1
        · have f3 : (x1 != y1) = false := by simp [j3]
          clear j1 j2 j3
          go_wp2
          go_quiet (fail)
          go_wp2_with fail
          refine (planCheck_any (waveOf (r + 1) m) m _ _ _ _ _ _ _ (HROW.out.drewN _)).mono ?_
          rintro e w4 ⟨rfl, hb4⟩
          rw [errV_nil (wave_ok hs hm)]
          go_wp2
          go_ret
          exact ⟨rfl, (by repeat (first | fail | (with_reducible exact Below.refl _ _) | (with_reducible refine Below.al ?_ _) | (with_reducible refine Below.drN ?_ _) | (with_reducible refine Below.drew ?_) | (with_reducible refine Below.st ?_ ?_ _; rotate_left 1; (first | (dsimp only; omega) | omega | (simp; omega) | simp)) | (with_reducible refine Below.go ?_ hb4) | (with_reducible refine Below.go ?_ hb2) | (with_reducible refine Below.go ?_ hb1) | exact Below.refl _ _))⟩
        · have f3 : (x1 != y1) = true := by simp [j3]
          have HSW : Hid (swapIf (stageTo m m m) k) := Lib.hid (by
            rw [← HST.out]
            unfold swapIf
            rw [show k - 1 = k0 by have := HK.out; omega, HX.out, HY.out]
            exact ⟨j1, j2, j3⟩)
          have fr : ∀ i, w2.frozen? ⟨g, i, none⟩ = false := fun i => by
            obtain ⟨cur, T, hcur⟩ := HFR.out
            simp [World.frozen?, hcur]
          clear j1 j2 j3
          go_wp2
          go_quiet (fail)
          go_wp2
          go_region
          all_goals
            have ha1 := act_put (act_put (HACT.out.drewN (nq + 1)) (k := k) (by omega) (y0, y1)) (k := k0) (by omega) (x0, x1)
            dsimp only at ha1
            obtain ⟨wz, hwz⟩ : ∃ wz, ((((w2.drewN (nq + 1)).setCell ⟨g, k * 2, none⟩ (.int .i64 y0)).setCell ⟨g, k * 2 + 1, none⟩ (.int .i64 y1)).setCell ⟨g, k0 * 2, none⟩ (.int .i64 x0)).setCell ⟨g, k0 * 2 + 1, none⟩ (.int .i64 x1) = wz := ⟨_, rfl⟩
            have hbg := HBG.out
            have hbz : Below w.heap.size w wz := by rw [← hwz]; exact (by repeat (first | fail | (with_reducible exact Below.refl _ _) | (with_reducible refine Below.al ?_ _) | (with_reducible refine Below.drN ?_ _) | (with_reducible refine Below.drew ?_) | (with_reducible refine Below.st ?_ ?_ _; rotate_left 1; (first | (dsimp only; omega) | omega | (simp; omega) | simp)) | (with_reducible refine Below.go ?_ hb2) | (with_reducible refine Below.go ?_ hb1) | exact Below.refl _ _))
            have hz1 : ∀ i, i ≠ g → wz.heap[i]? = w2.heap[i]? := fun i hi => by
              rw [← hwz, Below.heap_setCell _ _ _ i hi, Below.heap_setCell _ _ _ i hi, Below.heap_setCell _ _ _ i hi, Below.heap_setCell _ _ _ i hi]
              rfl
            have hz2 : wz.heap.size = w2.heap.size := by rw [← hwz]; simp [World.setCell, World.drewN]
            rw [hwz] at ha1
            have hsw : (st.set k (y0, y1)).set k0 (x0, x1) = swapAt (stageTo m m m) k := by
              rw [← HST.out]
              unfold swapAt
              rw [show k - 1 = k0 by have := HK.out; omega, HX.out, HY.out]
            rw [hsw] at ha1
            have hlp := last_put HH.out HRIS.out HNB.out HLAST.out hz1 hz2 (by rw [HSL.out]; exact ha1)
            rw [HMAP.out] at hlp
            have HLP := Lib.hid hlp
            have HOK : Hid (planFault m ((waveOf (r + 1) m).set r (swapAt (stageTo m m m) k)) = 0) := Lib.hid (swap_ok hs hm (by have := HK.out; omega) HSW.out)
            clear hz1 hz2 hsw ha1 hlp
            rw [hwz]
            clear hwz fr
            go_wp2_with fail
            refine (planCheck_any ((waveOf (r + 1) m).set r (swapAt (stageTo m m m) k)) m _ _ _ _ _ _ _ HLP.out).mono ?_
            rintro e w4 ⟨rfl, hb4⟩
            rw [errV_nil HOK.out]
            go_wp2
            go_ret
            exact ⟨rfl, hbz.trans (hb4.mono hbz.size)⟩
      · have f2 : (y0 == 1) = false := by simp [j2]
        clear j1 j2
        go_wp2
        go_quiet (fail)
        go_wp2_with fail
        refine (planCheck_any (waveOf (r + 1) m) m _ _ _ _ _ _ _ (HROW.out.drewN _)).mono ?_
        rintro e w4 ⟨rfl, hb4⟩
        rw [errV_nil (wave_ok hs hm)]
        go_wp2
        go_ret
        exact ⟨rfl, (by repeat (first | fail | (with_reducible exact Below.refl _ _) | (with_reducible refine Below.al ?_ _) | (with_reducible refine Below.drN ?_ _) | (with_reducible refine Below.drew ?_) | (with_reducible refine Below.st ?_ ?_ _; rotate_left 1; (first | (dsimp only; omega) | omega | (simp; omega) | simp)) | (with_reducible refine Below.go ?_ hb4) | (with_reducible refine Below.go ?_ hb2) | (with_reducible refine Below.go ?_ hb1) | exact Below.refl _ _))⟩
    · have f1 : (x0 == 2) = false := by simp [j1]
      clear j1
      go_wp2
      go_quiet (fail)
      go_wp2_with fail
      refine (planCheck_any (waveOf (r + 1) m) m _ _ _ _ _ _ _ (HROW.out.drewN _)).mono ?_
      rintro e w4 ⟨rfl, hb4⟩
      rw [errV_nil (wave_ok hs hm)]
      go_wp2
      go_ret
      exact ⟨rfl, (by repeat (first | fail | (with_reducible exact Below.refl _ _) | (with_reducible refine Below.al ?_ _) | (with_reducible refine Below.drN ?_ _) | (with_reducible refine Below.drew ?_) | (with_reducible refine Below.st ?_ ?_ _; rotate_left 1; (first | (dsimp only; omega) | omega | (simp; omega) | simp)) | (with_reducible refine Below.go ?_ hb4) | (with_reducible refine Below.go ?_ hb2) | (with_reducible refine Below.go ?_ hb1) | exact Below.refl _ _))⟩
  · have HF := Lib.hid hf
    clear hf
    go_enter Try.func3, Try.ntmps3
    go_wp2_with fail
    refine (planFact_any w).mono ?_
    rintro e w1 ⟨rfl, hb1⟩
    go_wp2_with fail
    refine (planWave_bad S M _ HF.out).mono ?_
    rintro e w2 ⟨rfl, hb2⟩
    rw [errV_err (by decide)]
    go_wp2
    go_ret
    exact ⟨rfl, (by repeat (first | fail | (with_reducible exact Below.refl _ _) | (with_reducible refine Below.al ?_ _) | (with_reducible refine Below.drN ?_ _) | (with_reducible refine Below.drew ?_) | (with_reducible refine Below.st ?_ ?_ _; rotate_left 1; (first | (dsimp only; omega) | omega | (simp; omega) | simp)) | (with_reducible refine Below.go ?_ hb2) | (with_reducible refine Below.go ?_ hb1) | exact Below.refl _ _))⟩

theorem own : ownKnob Try.prog.godebug = none := by kernel_rfl
theorem laidOut : laidOutB Try.prog = true := by kernel_rfl
set_option maxRecDepth 100000 in
theorem lifted (os : Os) (started : os.Started) (H : Type) (enc : TypeId × Value → H) :
    ReturnsInHanded {} Try.checked os 3 .any (Rows.planSwapsSpec.pre6 enc Try.prog Try.f3 Rows.planSwapsRow.domain false) (Rows.planSwapsSpec.post enc Try.prog Try.f3 false true false false) := by
  refine returnsInHanded_of_change (C := Try.checked) own started (by kernel_rfl) Try.func3
    (ChangeSpec.witness6 (enc := enc) (C := Try.checked) false ⟨#[], #[.int .i64 0, .int .i64 0, .int .i64 0], []⟩ 8 (by kernel_rfl) (by kernel_rfl) (by kernel_rfl) (by kernel_rfl)) ?_
  intro W base args ds gs before hval0 hW hcnd hsz
  have hval : ∀ (j : Nat) t v, Try.f3.params[j]? = some t → args[j]? = some v → Value.okWide Try.prog W .any base t v := hval0
  have hW' := hW
  obtain ⟨p, q, hA0, hV, rfl, hfz, hnd⟩ := hW
  have hA : DataW.TrodAll enc Try.prog W 0 (fun _ => true) true Try.f3.params.toList args.toList ds p := hA0
  rw [Try.params3] at hA hval
  obtain ⟨v0, vs0, d0, ds0, p0, q0, hargs, rfl, rfl, h0, r0⟩ := trodAll_cons hA
  obtain ⟨v1, vs1, d1, ds1, p1, q1, rfl, rfl, rfl, h1, r1⟩ := trodAll_cons r0
  obtain ⟨v2, vs2, d2, ds2, p2, q2, rfl, rfl, rfl, h2, r2⟩ := trodAll_cons r1
  obtain ⟨rfl, rfl, rfl⟩ := trodAll_nil r2
  obtain rfl : args = #[v0, v1, v2] := by cases args; simp_all
  obtain ⟨rfl, rfl⟩ := trodVars_none hV
  have k0 := h0
  have lt0 : ∀ x ∈ p0, x.block < W.heap.size := by obtain ⟨m, hm⟩ := k0; exact DataW.trod_lt m _ _ _ hm
  have k1 := h1
  have lt1 : ∀ x ∈ p1, x.block < W.heap.size := by obtain ⟨m, hm⟩ := k1; exact DataW.trod_lt m _ _ _ hm
  have k2 := h2
  have lt2 : ∀ x ∈ p2, x.block < W.heap.size := by obtain ⟨m, hm⟩ := k2; exact DataW.trod_lt m _ _ _ hm
  obtain ⟨a0, rfl, rfl, rfl, w0⟩ := open_int Try.underlying3 (hval 0 3 v0 rfl rfl) h0
  obtain ⟨a1, rfl, rfl, rfl, w1⟩ := open_int Try.underlying3 (hval 1 3 v1 rfl rfl) h1
  obtain ⟨a2, rfl, rfl, rfl, w2⟩ := open_int Try.underlying3 (hval 2 3 v2 rfl rfl) h2
  clear hA0 hval0
  refine (walk a0 a1 a2 W w0 w1 w2).mono fun e W' ⟨he, bel⟩ => ?_
  subst he
  exact ⟨_, rfl, _, _, _, [], _, [], hW', trodAll_mk1 (shut_bool Try.underlying4 _), (trodAll_cons_mk (Below.trod laidOut (by kernel_rfl) (of_decide_eq_true (by kernel_rfl)) k0 bel lt0) (trodAll_cons_mk (Below.trod laidOut (by kernel_rfl) (of_decide_eq_true (by kernel_rfl)) k1 bel lt1) (trodAll_cons_mk (Below.trod laidOut (by kernel_rfl) (of_decide_eq_true (by kernel_rfl)) k2 bel lt2) trodAll_mk0))), rfl, bel.frame _, fun h => by cases h⟩

theorem proved : Rows.PlanSwapsSaid :=
  OpenClaim.holds_of_wide 3 Try.f3 rfl rfl rfl rfl rfl rfl rfl ⟨rfl, rfl, rfl, rfl, rfl⟩ rfl rfl rfl rfl rfl (by kernel_rfl) Try.func3 (by kernel_rfl)
    (of_decide_eq_true (by kernel_rfl)) (by unfold Func.isWrapper; first | (rw [if_pos (by decide +kernel)]; kernel_rfl) | (rw [if_neg (by decide +kernel)]; exact ⟨rfl, rfl⟩))
    (fun os started H enc _ => lifted os started H enc)
#print axioms proved

end Go.Proofs.Ytjaepdkeldgikaa.lawPlanSwaps
