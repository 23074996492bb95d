/- Contracts of the reference: Octets, LoadOf. Printed by emit/RKeep4.py. -/
import Derived.Test.YtgknjikjjklaiaaDoorRKeep3
import Derived.Test.YtgknjikjjklaiaaDoorRWire1
import Derived.Test.YtgknjikjjklaiaaDoorRTrain1
import Derived.Test.YtgknjikjjklaiaaDoorTwo
import Derived.Test.YtgknjikjjklaiaaDoorJWorld
import Derived.Test.YtgknjikjjklaiaaDoorOpenS
import Derived.Deep.CutBlock
import Derived.Deep.DeepCutAuto
set_option linter.unusedVariables false
set_option linter.unusedSimpArgs false
set_option linter.unusedSectionVars false
set_option maxRecDepth 100000
namespace Gal
open Go Go.RowKit
theorem matRd_end {bs : List Nat} {at0 e : Nat} {m : Mat} (h : matRd bs at0 = some (m, e)) : e ≤ bs.length := by
  unfold matRd at h
  cases h1 : sevAt bs at0 with
  | none => rw [h1] at h; cases h
  | some q =>
    obtain ⟨r, a1⟩ := q
    rw [h1] at h
    dsimp only at h
    cases h2 : sevAt bs a1 with
    | none => rw [h2] at h; cases h
    | some q =>
      obtain ⟨c, a2⟩ := q
      rw [h2] at h
      dsimp only at h
      split at h
      · cases h
      · cases h3 : readN bs (r * c) a2 with
        | none => rw [h3] at h; cases h
        | some q =>
          obtain ⟨l, a3⟩ := q
          rw [h3] at h
          simp only [Option.some.injEq, Prod.mk.injEq] at h
          obtain ⟨_, _, h4, h5, _⟩ := readN_end h3
          have h6 := (sevAt_end h2).2.2
          rw [← h.2]
          rcases Nat.eq_zero_or_pos (r * c) with h0 | h0
          · rw [h0] at h5; omega
          · exact (h4 h0).2
theorem bodyRd_lays {c : List Nat} {a1 a2 n steps : Nat} (h1 : sevAt c 2 = some (steps, a1)) (h2 : sevAt c a1 = some (n, a2)) (hn : ¬ 12 < n) :
    bodyRd c = (match laysRd c a2 n with | none => none | some (N, V, e) => if e ≠ c.length ∨ (Sta.mk N V steps).fault ≠ 0 then none else some ⟨N, V, steps⟩) := by
  unfold bodyRd; rw [h1]; dsimp only; rw [h2]; dsimp only; rw [if_neg hn]
  cases laysRd c a2 n with
  | none => rfl
  | some q => obtain ⟨N, V, e⟩ := q; rfl
end Gal
namespace Go.Proofs.YtgknjikjjklaiaaDoor
open Go.RowKit Gal
set_option maxHeartbeats 8000000
theorem refOctets_any (xs ys : List Nat) (a a' : Option Addr) (n k b o k' b' o' : Nat) (F F' : Nat → Prop) (w : World) (h : RowAt Form.u8 w F a n k b o xs) (h' : RowAt Form.u8 w F' a' n k' b' o' ys) :
    Calls Tryd.prog 13 #[.slice a n k, .slice a' n k'] w fun e w' => ∃ r : Bool, e = .returned (.bool r) ∧ (r = true ↔ ∀ i, i < n → bt xs i = bt ys i) ∧ Below w.heap.size w w' := by
  have hmx := h.max
  unfold maxLen at hmx
  have e1 : ((n : Int) != (n : Int)) = false := by simp
  go_enter Tryd.func13, Tryd.ntmps13
  go_wp2
  go_loopw [5] (fun i wr => ∃ (t nq : Nat), t ≤ n ∧ i = .int .i64 t ∧ wr = w.drewN nq ∧ Hid (∀ j, j < t → bt xs j = bt ys j)) (fun i _ => n - (intOf i).toNat)
  case atStart => exact ⟨0, 0, Nat.zero_le _, rfl, rfl, Lib.hid (fun j hj => absurd hj (Nat.not_lt_zero _))⟩
  case round =>
    obtain ⟨t, nq, htn, rfl, rfl, HEQ⟩ := hrel
    by_cases hlt : t < n
    · obtain rfl := h.ptr (by omega)
      obtain rfl := h'.ptr (by omega)
      have c0 := (u8_cell h hlt).1
      have c1 := (u8_cell h' hlt).1
      obtain ⟨v, hv⟩ : ∃ v, bt xs t = v := ⟨_, rfl⟩
      obtain ⟨v', hv'⟩ : ∃ v', bt ys t = v' := ⟨_, rfl⟩
      rw [hv] at c0
      rw [hv'] at c1
      have HV := Lib.hid hv
      have HV' := Lib.hid hv'
      have s0 : (0 : Int) ≤ (t : Int) := by omega
      have s1 : (t : Int) < (n : Int) := by omega
      clear hv hv'
      by_cases hq : v = v'
      · subst hq
        have e2 : ((v : Int) != (v : Int)) = false := by simp
        go_wp2
        go_quiet (fail)
        go_wp2
        go_roundw
        case rel => exact ⟨t + 1, _, by omega, by go_num, (by first | rfl | exact World.drewN_drewN _ _ _), Lib.hid (fun j hj => by
          rcases Nat.lt_succ_iff_lt_or_eq.1 hj with h1 | h1
          · exact HEQ.out j h1
          · rw [h1, HV.out, HV'.out])⟩
        case measure => simp [intOf]; omega
      · have e2 : ((v : Int) != (v' : Int)) = true := by rw [bne_iff_ne]; omega
        have HQ := Lib.hid hq
        have HLT := Lib.hid hlt
        clear hq
        go_wp2
        go_quiet (fail)
        go_wp2
        go_ret
        exact ⟨false, rfl, ⟨(fun hh => by cases hh), (fun hh => absurd ((HV.out.symm.trans (hh t HLT.out)).trans HV'.out) HQ.out)⟩, (by repeat (first | fail | (with_reducible exact Below.refl _ _) | (with_reducible refine Below.al ?_ _) | (with_reducible refine Below.drN ?_ _) | (with_reducible refine Below.drew ?_) | (with_reducible refine Below.st ?_ ?_ _; rotate_left 1; (first | (dsimp only; omega) | omega | (simp; omega) | simp)) | exact Below.refl _ _))⟩
    · obtain rfl : n = t := by omega
      go_wp2
      go_ret
      exact ⟨true, rfl, ⟨(fun _ => HEQ.out), (fun _ => rfl)⟩, (by repeat (first | fail | (with_reducible exact Below.refl _ _) | (with_reducible refine Below.al ?_ _) | (with_reducible refine Below.drN ?_ _) | (with_reducible refine Below.drew ?_) | (with_reducible refine Below.st ?_ ?_ _; rotate_left 1; (first | (dsimp only; omega) | omega | (simp; omega) | simp)) | exact Below.refl _ _))⟩
/-- what LoadOf answers -/
def LoadOfEnd (bs : List Nat) (w : World) (e : Ending) (w' : World) : Prop :=
  Below w.heap.size w w' ∧ ((staRd bs = none ∧ e = .returned (.tuple #[.agg #[.slice none 0 0, .slice none 0 0, .int .i64 0], .bool false])) ∨
    (∃ s v, staRd bs = some s ∧ e = .returned (.tuple #[v, .bool true]) ∧ StaV w' v s))
theorem info_layerL : (Tryd.prog.info? 100).map (fun i => (i.zero, i.size, i.bytes)) = some (some (.agg #[.int .i64 0, .int .i64 0, .int .i64 0, .slice none 0 0, .int .i64 0, .int .i64 0, .slice none 0 0]), 7, 88) := by kernel_rfl
theorem info_gradL : (Tryd.prog.info? 102).map (fun i => (i.zero, i.size, i.bytes)) = some (some (.agg #[.int .i64 0, .int .i64 0, .slice none 0 0, .int .i64 0, .int .i64 0, .slice none 0 0]), 6, 80) := by kernel_rfl
theorem refLoadOf_any (bs : List Nat) (a : Option Addr) (L K b o : Nat) (w : World) (h : RowAt Form.u8 w anyB a L K b o bs) :
    Calls Tryd.prog 28 #[.slice a L K] w (LoadOfEnd bs w) := by
  obtain ⟨oz, hoz⟩ : ∃ oz : Obj, Obj.cells #[.slice none 0 0, .slice none 0 0, .int .i64 0] 61 = oz := ⟨_, rfl⟩
  obtain ⟨w0, hw0⟩ : ∃ w0, ((w.alloc oz).alloc oz).alloc oz = w0 := ⟨_, rfl⟩
  have hb0 : Below w.heap.size w w0 := by rw [← hw0]; exact (by repeat (first | fail | (with_reducible exact Below.refl _ _) | (with_reducible refine Below.al ?_ _) | (with_reducible refine Below.drN ?_ _) | (with_reducible refine Below.drew ?_) | (with_reducible refine Below.st ?_ ?_ _; rotate_left 1; (first | (dsimp only; omega) | omega | (simp; omega) | simp)) | exact Below.refl _ _))
  have hR0 : Box w0 w.heap.size [.slice none 0 0, .slice none 0 0, .int .i64 0] 61 := by rw [← hw0, ← hoz]; exact ((Box.new' _ _ [.slice none 0 0, .slice none 0 0, .int .i64 0] _ rfl).alloc _).alloc _
  have hS0 : Box w0 (w.heap.size + 1) [.slice none 0 0, .slice none 0 0, .int .i64 0] 61 := by rw [← hw0, ← hoz]; exact (Box.new' _ _ [.slice none 0 0, .slice none 0 0, .int .i64 0] _ (by simp)).alloc _
  have hN0 : Box w0 (w.heap.size + 1 + 1) [.slice none 0 0, .slice none 0 0, .int .i64 0] 61 := by rw [← hw0, ← hoz]; exact Box.new' _ _ [.slice none 0 0, .slice none 0 0, .int .i64 0] _ (by simp)
  have hz0 : w0.heap.size = w.heap.size + 1 + 1 + 1 := by rw [← hw0]; simp
  have HZ0 := Lib.hid hz0
  have HB0 := Lib.hid hb0
  have HW0 := Lib.hid hw0
  have HOZ := Lib.hid hoz
  have HBX := Lib.hid (And.intro hR0 (And.intro hS0 hN0))
  have r0 := hR0.cell 0
  have r1 := hR0.cell 1
  have r2 := hR0.cell 2
  have HL := Lib.hid h.len
  have hmx := h.max
  unfold maxLen at hmx
  clear hw0 hoz hz0 hb0 hR0 hS0 hN0
  by_cases c1 : L < 6
  · have e1 : ((L : Int) < 6) = True := eq_true (by omega)
    have HNO : Hid (staRd bs = none) := Lib.hid (by unfold staRd; exact if_neg (fun hh => by have := hh.1; rw [HL.out] at this; omega))
    clear h
    go_enter Tryd.func28, Tryd.ntmps28
    go_wp2
    rw [HOZ.out, HW0.out]
    refine bodyPost_ret (v := .tuple #[.agg #[.slice none 0 0, .slice none 0 0, .int .i64 0], .bool false]) (by simp [results, Tryd.results28, go_sem, r0, r1, r2]) rfl ⟨HB0.out, Or.inl ⟨HNO.out, rfl⟩⟩
  have e1 : ((L : Int) < 6) = False := eq_false (by omega)
  by_cases c2 : 100000 < L
  · have e2 : ((L : Int) > 100000) = True := eq_true (by omega)
    have HNO : Hid (staRd bs = none) := Lib.hid (by unfold staRd; exact if_neg (fun hh => by have := hh.2.1; rw [HL.out] at this; omega))
    clear h
    go_enter Tryd.func28, Tryd.ntmps28
    go_wp2
    rw [HOZ.out, HW0.out]
    refine bodyPost_ret (v := .tuple #[.agg #[.slice none 0 0, .slice none 0 0, .int .i64 0], .bool false]) (by simp [results, Tryd.results28, go_sem, r0, r1, r2]) rfl ⟨HB0.out, Or.inl ⟨HNO.out, rfl⟩⟩
  have e2 : ((L : Int) > 100000) = False := eq_false (by omega)
  obtain rfl := h.ptr (by omega)
  have hblt := h.lt (by omega)
  have hu : Hid (∀ W, Below w.heap.size w W → ∀ i, i < L → W.cell? ⟨b, o + i, none⟩ = some (.int .u8 (bt bs i : Int)) ∧ bt bs i < 256) := Lib.hid (fun W hW i hi => u8_cell (h.keep hW) hi)
  have q0 := (hu.out (((w.alloc (.cells #[.slice none 0 0, .slice none 0 0, .int .i64 0] 61)).alloc (.cells #[.slice none 0 0, .slice none 0 0, .int .i64 0] 61)).alloc (.cells #[.slice none 0 0, .slice none 0 0, .int .i64 0] 61)) (by repeat (first | fail | (with_reducible exact Below.refl _ _) | (with_reducible refine Below.al ?_ _) | (with_reducible refine Below.drN ?_ _) | (with_reducible refine Below.drew ?_) | (with_reducible refine Below.st ?_ ?_ _; rotate_left 1; (first | (dsimp only; omega) | omega | (simp; omega) | simp)) | exact Below.refl _ _)) 0 (by omega)).1
  have q1 := (hu.out (((w.alloc (.cells #[.slice none 0 0, .slice none 0 0, .int .i64 0] 61)).alloc (.cells #[.slice none 0 0, .slice none 0 0, .int .i64 0] 61)).alloc (.cells #[.slice none 0 0, .slice none 0 0, .int .i64 0] 61)) (by repeat (first | fail | (with_reducible exact Below.refl _ _) | (with_reducible refine Below.al ?_ _) | (with_reducible refine Below.drN ?_ _) | (with_reducible refine Below.drew ?_) | (with_reducible refine Below.st ?_ ?_ _; rotate_left 1; (first | (dsimp only; omega) | omega | (simp; omega) | simp)) | exact Below.refl _ _)) 1 (by omega)).1
  rw [Nat.add_zero] at q0
  have pL : (0 : Int) < (L : Int) := by omega
  have pL1 : (1 : Int) < (L : Int) := by omega
  have HU : Hid (headOk bs ↔ (bt bs 0 = 71 ∧ bt bs 1 = 1 ∧ (prgSums (bs.take (L - 2))).1 = bt bs (L - 2) ∧ (prgSums (bs.take (L - 2))).2 = bt bs (L - 1))) := Lib.hid (by
    unfold headOk bt
    rw [HL.out]
    constructor
    · rintro ⟨_, _, h1, h2, h3, h4⟩; exact ⟨h1, h2, h3, h4⟩
    · rintro ⟨h1, h2, h3, h4⟩; exact ⟨by omega, by omega, h1, h2, h3, h4⟩)
  by_cases c3 : bt bs 0 = 71
  case neg =>
    have e3 : ((bt bs 0 : Int) != 71) = true := by rw [bne_iff_ne]; omega
    have HNO : Hid (staRd bs = none) := Lib.hid (by unfold staRd; exact if_neg (fun hh => c3 (HU.out.1 hh).1))
    clear h c3
    go_enter Tryd.func28, Tryd.ntmps28
    go_wp2
    rw [HOZ.out, HW0.out]
    refine bodyPost_ret (v := .tuple #[.agg #[.slice none 0 0, .slice none 0 0, .int .i64 0], .bool false]) (by simp [results, Tryd.results28, go_sem, r0, r1, r2]) rfl ⟨HB0.out, Or.inl ⟨HNO.out, rfl⟩⟩
  have e3 : ((bt bs 0 : Int) != 71) = false := by rw [bne_eq_false_iff_eq]; omega
  by_cases c4 : bt bs 1 = 1
  case neg =>
    have e4 : ((bt bs 1 : Int) != 1) = true := by rw [bne_iff_ne]; omega
    have HNO : Hid (staRd bs = none) := Lib.hid (by unfold staRd; exact if_neg (fun hh => c4 (HU.out.1 hh).2.1))
    clear h c3 c4
    go_enter Tryd.func28, Tryd.ntmps28
    go_wp2
    rw [HOZ.out, HW0.out]
    refine bodyPost_ret (v := .tuple #[.agg #[.slice none 0 0, .slice none 0 0, .int .i64 0], .bool false]) (by simp [results, Tryd.results28, go_sem, r0, r1, r2]) rfl ⟨HB0.out, Or.inl ⟨HNO.out, rfl⟩⟩
  have e4 : ((bt bs 1 : Int) != 1) = false := by rw [bne_eq_false_iff_eq]; omega
  obtain ⟨m, hLm⟩ : ∃ m, L = m + 2 := ⟨L - 2, by omega⟩
  have h5 : IntKind.i64.wrap ((L : Int) - 2) = (m : Int) := by rw [IntKind.wrap_i64]; omega
  have hmK : m ≤ K := by have := h.le; omega
  have HM : Hid (L = m + 2) := Lib.hid hLm
  have HC : Hid (∀ W, Below w.heap.size w W → RowAt Form.u8 W anyB (some ⟨b, o, none⟩) m K b o (bs.take m)) := Lib.hid (fun W hW => (h.keep hW).firstk (k := m) (by omega))
  have HD : Hid (∀ W, Below w.heap.size w W → RowAt Form.u8 W anyB (some ⟨b, o + m, none⟩) 2 (K - m) b (o + m) (bs.drop m)) := Lib.hid (fun W hW => by
    have h1 := (h.keep hW).drop (k := m) (by omega)
    rw [show m * Form.u8.size = m from Nat.mul_one m, show L - m = 2 by omega] at h1
    exact h1)
  have HKM : Hid (m + 2 ≤ K) := Lib.hid (by have := h.le; omega)
  have hm6 : m < 9223372036854775807 := by omega
  have hm7 : m ≤ 1000000 := by omega
  have l3 : (K = m) = False := eq_false (by have := HKM.out; omega)
  have l5 : L - m = 2 := by omega
  have l6 : (m : Int) ≤ (L : Int) := by omega
  have l7 : (0 : Int) ≤ (m : Int) := by omega
  clear h hLm
  go_enter Tryd.func28, Tryd.ntmps28
  go_wp2_with fail
  rw [HOZ.out, HW0.out]
  refine (refSumsOf_any (bs.take m) _ _ _ _ _ _ w0 (HC.out w0 HB0.out) hm7).mono ?_
  rintro e w1 ⟨g, rfl, hg, hrS, hb1⟩
  have hbw1 : Below w.heap.size w w1 := HB0.out.trans (hb1.mono HB0.out.size)
  clear q0 q1 e1 e2 e3 e4 r0 r1 r2
  go_wp2_with fail
  refine (refOctets_any [(prgSums (bs.take m)).1, (prgSums (bs.take m)).2] (bs.drop m) _ _ 2 _ _ _ _ _ _ _ _ w1 hrS (HD.out w1 hbw1)).mono ?_
  rintro e w2 ⟨rr, rfl, hrr, hb2⟩
  have hbw2 : Below w.heap.size w w2 := hbw1.trans (hb2.mono hbw1.size)
  have h02 : Below w0.heap.size w0 w2 := hb1.trans (hb2.mono hb1.size)
  have hR2 := HBX.out.1.keep h02
  have hS2 := HBX.out.2.1.keep h02
  have hN2 := HBX.out.2.2.keep h02
  have hs2 : w.heap.size + 1 + 1 + 1 ≤ w2.heap.size := by have h1 := h02.size; have h2 := HZ0.out; omega
  have hbd : ∀ i, bt (bs.drop m) i = bt bs (m + i) := fun i => by unfold bt; rw [List.getElem?_drop]
  have HRR : Hid (rr = true ↔ ((prgSums (bs.take m)).1 = bt bs m ∧ (prgSums (bs.take m)).2 = bt bs (m + 1))) := Lib.hid (by
    rw [hrr]
    constructor
    · intro hh
      have h1 := hh 0 (by decide)
      have h2 := hh 1 (by decide)
      rw [hbd] at h1 h2
      exact ⟨h1, h2⟩
    · rintro ⟨h1, h2⟩ i hi
      rw [hbd]
      rcases Nat.lt_or_ge i 1 with h3 | h3
      · obtain rfl : i = 0 := by omega
        exact h1
      · obtain rfl : i = 1 := by omega
        exact h2)
  clear hrr hbd hrS hb1 hb2 h02 hbw1 hg l3 l5 l6 l7 h5
  cases rr with
  | false =>
    have HNO : Hid (staRd bs = none) := Lib.hid (by
      unfold staRd
      refine if_neg (fun hh => ?_)
      obtain ⟨_, _, h1, h2⟩ := HU.out.1 hh
      rw [HM.out] at h1 h2
      have h3 := HRR.out.2 ⟨h1, h2⟩
      cases h3)
    -- the way out where there is no state: the world w2, the empty one's box hN2, the result's hR2, Below hbw2
    have hbx := ((Box.set (hR2) 0 (.slice none 0 0)).set 1 (.slice none 0 0)).set 2 (.int .i64 0)
    have bz0 := hbx.cell 0
    have bz1 := hbx.cell 1
    have bz2 := hbx.cell 2
    have bn0 := Box.cell (hN2) 0
    have bn1 := Box.cell (hN2) 1
    have bn2 := Box.cell (hN2) 2
    have bk0 := Box.cell (hR2) 0
    have bk1 := Box.cell (hR2) 1
    have bk2 := Box.cell (hR2) 2
    have bt0 := Box.thawed (hR2) 0
    have bt1 := Box.thawed (hR2) 1
    have bt2 := Box.thawed (hR2) 2
    have HBZ : Hid (Below w.heap.size w ((((w2).setCell ⟨w.heap.size, 0, none⟩ (.slice none 0 0)).setCell ⟨w.heap.size, 1, none⟩ (.slice none 0 0)).setCell ⟨w.heap.size, 2, none⟩ (.int .i64 0))) := Lib.hid ((((hbw2).setCell (Nat.le_refl _) _).setCell (Nat.le_refl _) _).setCell (Nat.le_refl _) _)
    clear hbx
    go_wp2
    refine bodyPost_ret (v := .tuple #[.agg #[.slice none 0 0, .slice none 0 0, .int .i64 0], .bool false]) (by simp [results, Tryd.results28, go_sem, bz0, bz1, bz2]) rfl ⟨?_, Or.inl ⟨HNO.out, rfl⟩⟩
    exact HBZ.out
  | true =>
  have HS : Hid (staRd bs = bodyRd (bs.take m)) := Lib.hid (by
    obtain ⟨h1, h2⟩ := HRR.out.1 rfl
    unfold staRd
    rw [if_pos (HU.out.2 ⟨c3, c4, by rw [HM.out]; exact h1, by rw [HM.out]; exact h2⟩), HL.out, HM.out]
    rfl)
  have hlen : Hid ((bs.take m).length = m) := Lib.hid (by rw [List.length_take, HL.out, HM.out]; omega)
  have h2m : 2 ≤ m := by have := HM.out; omega
  clear c3 c4
  go_wp2_with fail
  refine (refSevenAt_any (bs.take m) _ m K b o 2 anyB w2 (HC.out w2 hbw2) h2m).mono ?_
  rintro e w3 ⟨x, y, rfl, hsev, hb3⟩
  have hbw3 : Below w.heap.size w w3 := hbw2.trans (hb3.mono hbw2.size)
  have hR3 := hR2.keep hb3
  have hS3 := hS2.keep hb3
  have hN3 := hN2.keep hb3
  have hs3 : w.heap.size + 1 + 1 + 1 ≤ w3.heap.size := Nat.le_trans hs2 hb3.size
  have k2 := hS3.cell 2
  have f2 := hS3.thawed 2
  clear hb3 hbw2 hR2 hS2 hN2 hs2
  rcases hsev with ⟨steps, at1, hv1, rfl, rfl⟩ | ⟨hv1, rfl, rfl⟩
  case inr =>
    have HNO : Hid (staRd bs = none) := Lib.hid (by rw [HS.out]; unfold bodyRd; rw [hv1])
    have hN4 := hN3.far (a := ⟨w.heap.size + 1, 2, none⟩) (by dsimp only; omega) (.int .i64 0)
    have hR4 := hR3.far (a := ⟨w.heap.size + 1, 2, none⟩) (by dsimp only; omega) (.int .i64 0)
    have hb4 : Below w.heap.size w (w3.setCell ⟨w.heap.size + 1, 2, none⟩ (.int .i64 0)) := hbw3.setCell (by dsimp only; omega) _
    -- the way out where there is no state: the world (w3.setCell ⟨w.heap.size + 1, 2, none⟩ (.int .i64 0)), the empty one's box hN4, the result's hR4, Below hb4
    have hbx := ((Box.set (hR4) 0 (.slice none 0 0)).set 1 (.slice none 0 0)).set 2 (.int .i64 0)
    have bz0 := hbx.cell 0
    have bz1 := hbx.cell 1
    have bz2 := hbx.cell 2
    have bn0 := Box.cell (hN4) 0
    have bn1 := Box.cell (hN4) 1
    have bn2 := Box.cell (hN4) 2
    have bk0 := Box.cell (hR4) 0
    have bk1 := Box.cell (hR4) 1
    have bk2 := Box.cell (hR4) 2
    have bt0 := Box.thawed (hR4) 0
    have bt1 := Box.thawed (hR4) 1
    have bt2 := Box.thawed (hR4) 2
    have HBZ : Hid (Below w.heap.size w (((((w3.setCell ⟨w.heap.size + 1, 2, none⟩ (.int .i64 0))).setCell ⟨w.heap.size, 0, none⟩ (.slice none 0 0)).setCell ⟨w.heap.size, 1, none⟩ (.slice none 0 0)).setCell ⟨w.heap.size, 2, none⟩ (.int .i64 0))) := Lib.hid ((((hb4).setCell (Nat.le_refl _) _).setCell (Nat.le_refl _) _).setCell (Nat.le_refl _) _)
    clear hbx
    go_wp2
    refine bodyPost_ret (v := .tuple #[.agg #[.slice none 0 0, .slice none 0 0, .int .i64 0], .bool false]) (by simp [results, Tryd.results28, go_sem, bz0, bz1, bz2]) rfl ⟨?_, Or.inl ⟨HNO.out, rfl⟩⟩
    exact HBZ.out
  have hat1 : at1 ≤ m := by have h1 := (sevAt_end hv1).2.2; rw [hlen.out] at h1; exact h1
  have HV1 := Lib.hid hv1
  obtain ⟨w4, hw4⟩ : ∃ w4, w3.setCell ⟨w.heap.size + 1, 2, none⟩ (.int .i64 (steps : Int)) = w4 := ⟨_, rfl⟩
  have hS4 : Box w4 (w.heap.size + 1) [.slice none 0 0, .slice none 0 0, .int .i64 (steps : Int)] 61 := by rw [← hw4]; exact hS3.set 2 _
  have hN4 : Box w4 (w.heap.size + 1 + 1) [.slice none 0 0, .slice none 0 0, .int .i64 0] 61 := by rw [← hw4]; exact hN3.far (by dsimp only; omega) _
  have hR4 : Box w4 w.heap.size [.slice none 0 0, .slice none 0 0, .int .i64 0] 61 := by rw [← hw4]; exact hR3.far (by dsimp only; omega) _
  have hb4 : Below w.heap.size w w4 := by rw [← hw4]; exact hbw3.setCell (by dsimp only; omega) _
  have hs4 : w.heap.size + 1 + 1 + 1 ≤ w4.heap.size := by rw [← hw4]; simpa [World.setCell] using hs3
  have HW4 := Lib.hid hw4
  have p1 : ((at1 : Int) ≥ 0) = True := eq_true (by omega)
  clear hw4 hS3 hN3 hR3 hbw3 hv1 hs3
  go_wp2_with fail
  rw [HW4.out]
  refine (refSevenAt_any (bs.take m) _ m K b o at1 anyB w4 (HC.out w4 hb4) hat1).mono ?_
  rintro e w5 ⟨x, y, rfl, hsev, hb5⟩
  have hbw5 : Below w.heap.size w w5 := hb4.trans (hb5.mono hb4.size)
  have hR5 := hR4.keep hb5
  have hS5 := hS4.keep hb5
  have hN5 := hN4.keep hb5
  have hs5 : w.heap.size + 1 + 1 + 1 ≤ w5.heap.size := Nat.le_trans hs4 hb5.size
  clear hb5 hb4 hR4 hS4 hN4 hs4 k2 f2 p1
  rcases hsev with ⟨n, at2, hv2, rfl, rfl⟩ | ⟨hv2, rfl, rfl⟩
  case inr =>
    have HNO : Hid (staRd bs = none) := Lib.hid (by rw [HS.out]; unfold bodyRd; rw [HV1.out]; dsimp only; rw [hv2])
    -- the way out where there is no state: the world w5, the empty one's box hN5, the result's hR5, Below hbw5
    have hbx := ((Box.set (hR5) 0 (.slice none 0 0)).set 1 (.slice none 0 0)).set 2 (.int .i64 0)
    have bz0 := hbx.cell 0
    have bz1 := hbx.cell 1
    have bz2 := hbx.cell 2
    have bn0 := Box.cell (hN5) 0
    have bn1 := Box.cell (hN5) 1
    have bn2 := Box.cell (hN5) 2
    have bk0 := Box.cell (hR5) 0
    have bk1 := Box.cell (hR5) 1
    have bk2 := Box.cell (hR5) 2
    have bt0 := Box.thawed (hR5) 0
    have bt1 := Box.thawed (hR5) 1
    have bt2 := Box.thawed (hR5) 2
    have HBZ : Hid (Below w.heap.size w ((((w5).setCell ⟨w.heap.size, 0, none⟩ (.slice none 0 0)).setCell ⟨w.heap.size, 1, none⟩ (.slice none 0 0)).setCell ⟨w.heap.size, 2, none⟩ (.int .i64 0))) := Lib.hid ((((hbw5).setCell (Nat.le_refl _) _).setCell (Nat.le_refl _) _).setCell (Nat.le_refl _) _)
    clear hbx
    go_wp2
    refine bodyPost_ret (v := .tuple #[.agg #[.slice none 0 0, .slice none 0 0, .int .i64 0], .bool false]) (by simp [results, Tryd.results28, go_sem, bz0, bz1, bz2]) rfl ⟨?_, Or.inl ⟨HNO.out, rfl⟩⟩
    exact HBZ.out
  have hat2 : at2 ≤ m := by have h1 := (sevAt_end hv2).2.2; rw [hlen.out] at h1; exact h1
  have hn63 := sevAt_lt hv2
  have HV2 := Lib.hid hv2
  have p2 : ((at2 : Int) < 0) = False := eq_false (by omega)
  clear hv2
  by_cases c7 : 12 < n
  · have e7 : ((n : Int) > 12) = True := eq_true (by omega)
    have HNO : Hid (staRd bs = none) := Lib.hid (by rw [HS.out]; unfold bodyRd; rw [HV1.out]; dsimp only; rw [HV2.out]; exact if_pos c7)
    clear hS5 c7
    -- the way out where there is no state: the world w5, the empty one's box hN5, the result's hR5, Below hbw5
    have hbx := ((Box.set (hR5) 0 (.slice none 0 0)).set 1 (.slice none 0 0)).set 2 (.int .i64 0)
    have bz0 := hbx.cell 0
    have bz1 := hbx.cell 1
    have bz2 := hbx.cell 2
    have bn0 := Box.cell (hN5) 0
    have bn1 := Box.cell (hN5) 1
    have bn2 := Box.cell (hN5) 2
    have bk0 := Box.cell (hR5) 0
    have bk1 := Box.cell (hR5) 1
    have bk2 := Box.cell (hR5) 2
    have bt0 := Box.thawed (hR5) 0
    have bt1 := Box.thawed (hR5) 1
    have bt2 := Box.thawed (hR5) 2
    have HBZ : Hid (Below w.heap.size w ((((w5).setCell ⟨w.heap.size, 0, none⟩ (.slice none 0 0)).setCell ⟨w.heap.size, 1, none⟩ (.slice none 0 0)).setCell ⟨w.heap.size, 2, none⟩ (.int .i64 0))) := Lib.hid ((((hbw5).setCell (Nat.le_refl _) _).setCell (Nat.le_refl _) _).setCell (Nat.le_refl _) _)
    clear hbx
    go_wp2
    refine bodyPost_ret (v := .tuple #[.agg #[.slice none 0 0, .slice none 0 0, .int .i64 0], .bool false]) (by simp [results, Tryd.results28, go_sem, bz0, bz1, bz2]) rfl ⟨?_, Or.inl ⟨HNO.out, rfl⟩⟩
    exact HBZ.out
  have e7 : ((n : Int) > 12) = False := eq_false (by omega)
  have HC7 := Lib.hid c7
  have HBD : Hid (staRd bs = (match laysRd (bs.take m) at2 n with | none => none | some (N, V, e) => if e ≠ m ∨ (Sta.mk N V steps).fault ≠ 0 then none else some ⟨N, V, steps⟩)) := Lib.hid (by rw [HS.out, bodyRd_lays HV1.out HV2.out HC7.out, hlen.out])
  obtain ⟨i0, hi, hz0, hz1, hz2⟩ := info_parts info_layerL
  obtain ⟨i1, hi', hz0', hz1', hz2'⟩ := info_parts info_gradL
  clear c7
  go_wp2_with fail
  go_loopw [10, 11] (fun u i wr => ∃ (t atq : Nat) (vN vV : Value) (N : List Lay) (V : List Grd) (Eb : Nat → Prop), t ≤ n ∧ i = .int .i64 t ∧ u = .int .i64 atq ∧ atq ≤ m ∧ N.length = t ∧ V.length = t ∧ Box wr (w.heap.size + 1) [vN, vV, .int .i64 (steps : Int)] 61 ∧ TwoRows Eb wr (w.heap.size + 1 + 1 + 1) 100 102 vN N vV V ∧ Box wr (w.heap.size + 1 + 1) [.slice none 0 0, .slice none 0 0, .int .i64 0] 61 ∧ Box wr w.heap.size [.slice none 0 0, .slice none 0 0, .int .i64 0] 61 ∧ Below w.heap.size w wr ∧ w.heap.size + 1 + 1 + 1 ≤ wr.heap.size ∧ Hid (laysRd (bs.take m) at2 t = some (N, V, atq))) (fun _ i _ => n - (intOf i).toNat)
  case atStart => exact ⟨0, at2, _, _, [], [], _, Nat.zero_le _, rfl, rfl, hat2, rfl, rfl, hS5, TwoRows.nil _ _ _ _, hN5, hR5, hbw5, hs5, Lib.hid rfl⟩
  case round =>
    clear hS5 hN5 hR5 hbw5 hs5 e7 p2
    obtain ⟨t, atq, vN, vV, N, V, Eb, ht, rfl, rfl, haq, hNl, hVl, hSr, hT, hNr, hRr, hbr, hsr, HLs⟩ := hrel
    by_cases hlt : t < n
    · have g1 : ((t : Int) < (n : Int)) = True := eq_true (Int.ofNat_lt.2 hlt)
      have HFAIL : Hid (partRd (bs.take m) atq = none → staRd bs = none) := Lib.hid (fun hh => by
        have h1 : laysRd (bs.take m) at2 (t + 1) = none := by rw [laysRd, HLs.out]; dsimp only; rw [hh]
        rw [HBD.out, laysRd_none' h1 (by omega)])
      have HNEXT : Hid (∀ l v e, partRd (bs.take m) atq = some (l, v, e) → laysRd (bs.take m) at2 (t + 1) = some (N ++ [l], V ++ [v], e)) := Lib.hid (fun l v e hh => by rw [laysRd, HLs.out]; dsimp only; rw [hh])
      have HON := Lib.hid hT.own1.base_le
      have HOV := Lib.hid hT.own2.base_le
      have HEX : Hid (∀ b, Eb b → b < wr.heap.size) := Lib.hid (fun b hb => (hT.ext b hb).1)
      obtain ⟨wa, hwa⟩ : ∃ wa, (wr.alloc (.cells #[.int .i64 0, .int .i64 0, .int .i64 0, .slice none 0 0, .int .i64 0, .int .i64 0, .slice none 0 0] 100)).alloc (.cells #[.int .i64 0, .int .i64 0, .slice none 0 0, .int .i64 0, .int .i64 0, .slice none 0 0] 102) = wa := ⟨_, rfl⟩
      have hwra : Below wr.heap.size wr wa := by rw [← hwa]; exact (by repeat (first | fail | (with_reducible exact Below.refl _ _) | (with_reducible refine Below.al ?_ _) | (with_reducible refine Below.drN ?_ _) | (with_reducible refine Below.drew ?_) | (with_reducible refine Below.st ?_ ?_ _; rotate_left 1; (first | (dsimp only; omega) | omega | (simp; omega) | simp)) | exact Below.refl _ _))
      have hLa : Box wa (wr.heap.size) [.int .i64 0, .int .i64 0, .int .i64 0, .slice none 0 0, .int .i64 0, .int .i64 0, .slice none 0 0] 100 := by rw [← hwa]; exact (Box.new' _ _ [.int .i64 0, .int .i64 0, .int .i64 0, .slice none 0 0, .int .i64 0, .int .i64 0, .slice none 0 0] _ rfl).alloc _
      have hGa : Box wa (wr.heap.size + 1) [.int .i64 0, .int .i64 0, .slice none 0 0, .int .i64 0, .int .i64 0, .slice none 0 0] 102 := by rw [← hwa]; exact Box.new' _ _ [.int .i64 0, .int .i64 0, .slice none 0 0, .int .i64 0, .int .i64 0, .slice none 0 0] _ (by simp)
      have hSa : Box wa (w.heap.size + 1) [vN, vV, .int .i64 (steps : Int)] 61 := hSr.keep hwra
      have hNa : Box wa (w.heap.size + 1 + 1) [.slice none 0 0, .slice none 0 0, .int .i64 0] 61 := hNr.keep hwra
      have hRa : Box wa w.heap.size [.slice none 0 0, .slice none 0 0, .int .i64 0] 61 := hRr.keep hwra
      have hTa : TwoRows Eb wa (w.heap.size + 1 + 1 + 1) 100 102 vN N vV V := hT.keep hwra
      have hba : Below w.heap.size w wa := hbr.trans (hwra.mono hbr.size)
      have hsa : wr.heap.size + 1 + 1 ≤ wa.heap.size := by rw [← hwa]; simp
      have HWA := Lib.hid hwa
      clear hwa hwra hSr hNr hRr hT hbr
      go_wp2_with fail
      rw [HWA.out]
      refine (refSevenAt_any (bs.take m) _ m K b o atq anyB wa (HC.out wa hba) haq).mono ?_
      rintro e v0 ⟨x, y, rfl, hsev, hbc⟩
      have hLv0 : Box v0 (wr.heap.size) [.int .i64 0, .int .i64 0, .int .i64 0, .slice none 0 0, .int .i64 0, .int .i64 0, .slice none 0 0] 100 := hLa.keep hbc
      have hGv0 : Box v0 (wr.heap.size + 1) [.int .i64 0, .int .i64 0, .slice none 0 0, .int .i64 0, .int .i64 0, .slice none 0 0] 102 := hGa.keep hbc
      have hSv0 : Box v0 (w.heap.size + 1) [vN, vV, .int .i64 (steps : Int)] 61 := hSa.keep hbc
      have hNv0 : Box v0 (w.heap.size + 1 + 1) [.slice none 0 0, .slice none 0 0, .int .i64 0] 61 := hNa.keep hbc
      have hRv0 : Box v0 w.heap.size [.slice none 0 0, .slice none 0 0, .int .i64 0] 61 := hRa.keep hbc
      have hTv0 : TwoRows Eb v0 (w.heap.size + 1 + 1 + 1) 100 102 vN N vV V := hTa.keep hbc
      have hbv0 : Below w.heap.size w v0 := hba.trans (hbc.mono hba.size)
      have hsv0 : wr.heap.size + 1 + 1 ≤ v0.heap.size := Nat.le_trans hsa hbc.size
      clear hLa hGa hSa hNa hRa hTa hba hsa 
      clear hbc
      have z0 := hLv0.cell 0
      have y0 := hLv0.thawed 0
      rcases hsev with ⟨kd, a0, hv0, rfl, rfl⟩ | ⟨hv0, rfl, rfl⟩
      case inr =>
        have HNO : Hid (staRd bs = none) := Lib.hid (HFAIL.out (by unfold partRd; rw [hv0]))
        have hN9 := (hNv0.far (a := ⟨wr.heap.size, 0, none⟩) (by dsimp only; omega) (.int .i64 0))
        have hR9 := (hRv0.far (a := ⟨wr.heap.size, 0, none⟩) (by dsimp only; omega) (.int .i64 0))
        have hb9 : Below w.heap.size w (v0.setCell ⟨wr.heap.size, 0, none⟩ (.int .i64 0)) := (hbv0.setCell (by dsimp only; omega) _)
        -- the way out where there is no state: the world (v0.setCell ⟨wr.heap.size, 0, none⟩ (.int .i64 0)), the empty one's box hN9, the result's hR9, Below hb9
        have hbx := ((Box.set (hR9) 0 (.slice none 0 0)).set 1 (.slice none 0 0)).set 2 (.int .i64 0)
        have bz0 := hbx.cell 0
        have bz1 := hbx.cell 1
        have bz2 := hbx.cell 2
        have bn0 := Box.cell (hN9) 0
        have bn1 := Box.cell (hN9) 1
        have bn2 := Box.cell (hN9) 2
        have bk0 := Box.cell (hR9) 0
        have bk1 := Box.cell (hR9) 1
        have bk2 := Box.cell (hR9) 2
        have bt0 := Box.thawed (hR9) 0
        have bt1 := Box.thawed (hR9) 1
        have bt2 := Box.thawed (hR9) 2
        have HBZ : Hid (Below w.heap.size w (((((v0.setCell ⟨wr.heap.size, 0, none⟩ (.int .i64 0))).setCell ⟨w.heap.size, 0, none⟩ (.slice none 0 0)).setCell ⟨w.heap.size, 1, none⟩ (.slice none 0 0)).setCell ⟨w.heap.size, 2, none⟩ (.int .i64 0))) := Lib.hid ((((hb9).setCell (Nat.le_refl _) _).setCell (Nat.le_refl _) _).setCell (Nat.le_refl _) _)
        clear hbx
        go_wp2
        refine bodyPost_ret (v := .tuple #[.agg #[.slice none 0 0, .slice none 0 0, .int .i64 0], .bool false]) (by simp [results, Tryd.results28, go_sem, bz0, bz1, bz2]) rfl ⟨?_, Or.inl ⟨HNO.out, rfl⟩⟩
        exact HBZ.out
      have hat0 : a0 ≤ m := by have h1 := (sevAt_end hv0).2.2; rw [hlen.out] at h1; exact h1
      have HK := Lib.hid hv0
      clear hv0
      obtain ⟨u0, hw⟩ : ∃ u0, (v0.setCell ⟨wr.heap.size, 0, none⟩ (.int .i64 (kd : Int))) = u0 := ⟨_, rfl⟩
      have hfar : Far (fun y => y = wr.heap.size) v0 u0 := by
        rw [← hw]
        have f0 : Far (fun y => y = wr.heap.size) v0 v0 := Far.refl _ _
        exact f0.st (a := ⟨wr.heap.size, 0, none⟩) (fun _ => rfl) (.int .i64 (kd : Int))
      have hLu0 : Box u0 (wr.heap.size) [.int .i64 (kd : Int), .int .i64 0, .int .i64 0, .slice none 0 0, .int .i64 0, .int .i64 0, .slice none 0 0] 100 := by rw [← hw]; exact (hLv0.set 0 _)
      have hGu0 : Box u0 (wr.heap.size + 1) [.int .i64 0, .int .i64 0, .slice none 0 0, .int .i64 0, .int .i64 0, .slice none 0 0] 102 := by rw [← hw]; exact (hGv0.far (by dsimp only; omega) _)
      have hSu0 : Box u0 (w.heap.size + 1) [vN, vV, .int .i64 (steps : Int)] 61 := by rw [← hw]; exact (hSv0.far (by dsimp only; omega) _)
      have hNu0 : Box u0 (w.heap.size + 1 + 1) [.slice none 0 0, .slice none 0 0, .int .i64 0] 61 := by rw [← hw]; exact (hNv0.far (by dsimp only; omega) _)
      have hRu0 : Box u0 w.heap.size [.slice none 0 0, .slice none 0 0, .int .i64 0] 61 := by rw [← hw]; exact (hRv0.far (by dsimp only; omega) _)
      have hTu0 : TwoRows Eb u0 (w.heap.size + 1 + 1 + 1) 100 102 vN N vV V := hTv0.farO hfar HON.out HOV.out HEX.out (fun k hk => by have h2 : k = wr.heap.size := hk; omega)
      have hbu0 : Below w.heap.size w u0 := Far.toBelow hbv0 hfar hbv0.size (fun k hk => by have h2 : k = wr.heap.size := hk; omega)
      have hsu0 : wr.heap.size + 1 + 1 ≤ u0.heap.size := Nat.le_trans hsv0 hfar.size
      have Hu0 := Lib.hid hw
      clear hw hfar
      clear hLv0 hGv0 hSv0 hNv0 hRv0 hTv0 hbv0 hsv0 
      have p1 : ((a0 : Int) ≥ 0) = True := eq_true (by omega)
      go_wp2_with fail
      rw [Hu0.out]
      clear z0 y0
      refine (refMatrixAt_any (bs.take m) _ m K b o a0 anyB u0 (HC.out u0 hbu0) hat0).mono ?_
      rintro e v1 ⟨_, m1, y, rfl, ⟨c1, n1, k1, b1, o1, rfl, hn1, xx⟩, hbc, hm⟩
      have hLv1 : Box v1 (wr.heap.size) [.int .i64 (kd : Int), .int .i64 0, .int .i64 0, .slice none 0 0, .int .i64 0, .int .i64 0, .slice none 0 0] 100 := hLu0.keep hbc
      have hGv1 : Box v1 (wr.heap.size + 1) [.int .i64 0, .int .i64 0, .slice none 0 0, .int .i64 0, .int .i64 0, .slice none 0 0] 102 := hGu0.keep hbc
      have hSv1 : Box v1 (w.heap.size + 1) [vN, vV, .int .i64 (steps : Int)] 61 := hSu0.keep hbc
      have hNv1 : Box v1 (w.heap.size + 1 + 1) [.slice none 0 0, .slice none 0 0, .int .i64 0] 61 := hNu0.keep hbc
      have hRv1 : Box v1 w.heap.size [.slice none 0 0, .slice none 0 0, .int .i64 0] 61 := hRu0.keep hbc
      have hTv1 : TwoRows Eb v1 (w.heap.size + 1 + 1 + 1) 100 102 vN N vV V := hTu0.keep hbc
      have hbv1 : Below w.heap.size w v1 := hbu0.trans (hbc.mono hbu0.size)
      have hsv1 : wr.heap.size + 1 + 1 ≤ v1.heap.size := Nat.le_trans hsu0 hbc.size
      have x1v1 := xx
      have q1 : 0 < n1 → wr.heap.size + 1 + 1 ≤ b1 := fun hh => Nat.le_trans hsu0 (hn1 hh)
      clear hLu0 hGu0 hSu0 hNu0 hRu0 hTu0 hbu0 hsu0 
      clear hbc hn1 xx p1
      have z0 := hLv1.cell 1
      have y0 := hLv1.thawed 1
      have z1 := hLv1.cell 2
      have y1 := hLv1.thawed 2
      have z2 := hLv1.cell 3
      have y2 := hLv1.thawed 3
      rcases hm with ⟨a1, hv, rfl⟩ | ⟨hv, rfl⟩
      case inr =>
        have HNO : Hid (staRd bs = none) := Lib.hid (HFAIL.out (by unfold partRd; rw [HK.out]; dsimp only; rw [hv]))
        have hN9 := (((hNv1.far (a := ⟨wr.heap.size, 1, none⟩) (by dsimp only; omega) (.int .i64 m1.rows)).far (a := ⟨wr.heap.size, 2, none⟩) (by dsimp only; omega) (.int .i64 m1.cols)).far (a := ⟨wr.heap.size, 3, none⟩) (by dsimp only; omega) (.slice c1 n1 k1))
        have hR9 := (((hRv1.far (a := ⟨wr.heap.size, 1, none⟩) (by dsimp only; omega) (.int .i64 m1.rows)).far (a := ⟨wr.heap.size, 2, none⟩) (by dsimp only; omega) (.int .i64 m1.cols)).far (a := ⟨wr.heap.size, 3, none⟩) (by dsimp only; omega) (.slice c1 n1 k1))
        have hb9 : Below w.heap.size w (((v1.setCell ⟨wr.heap.size, 1, none⟩ (.int .i64 m1.rows)).setCell ⟨wr.heap.size, 2, none⟩ (.int .i64 m1.cols)).setCell ⟨wr.heap.size, 3, none⟩ (.slice c1 n1 k1)) := (((hbv1.setCell (by dsimp only; omega) _).setCell (by dsimp only; omega) _).setCell (by dsimp only; omega) _)
        -- the way out where there is no state: the world (((v1.setCell ⟨wr.heap.size, 1, none⟩ (.int .i64 m1.rows)).setCell ⟨wr.heap.size, 2, none⟩ (.int .i64 m1.cols)).setCell ⟨wr.heap.size, 3, none⟩ (.slice c1 n1 k1)), the empty one's box hN9, the result's hR9, Below hb9
        have hbx := ((Box.set (hR9) 0 (.slice none 0 0)).set 1 (.slice none 0 0)).set 2 (.int .i64 0)
        have bz0 := hbx.cell 0
        have bz1 := hbx.cell 1
        have bz2 := hbx.cell 2
        have bn0 := Box.cell (hN9) 0
        have bn1 := Box.cell (hN9) 1
        have bn2 := Box.cell (hN9) 2
        have bk0 := Box.cell (hR9) 0
        have bk1 := Box.cell (hR9) 1
        have bk2 := Box.cell (hR9) 2
        have bt0 := Box.thawed (hR9) 0
        have bt1 := Box.thawed (hR9) 1
        have bt2 := Box.thawed (hR9) 2
        have HBZ : Hid (Below w.heap.size w (((((((v1.setCell ⟨wr.heap.size, 1, none⟩ (.int .i64 m1.rows)).setCell ⟨wr.heap.size, 2, none⟩ (.int .i64 m1.cols)).setCell ⟨wr.heap.size, 3, none⟩ (.slice c1 n1 k1))).setCell ⟨w.heap.size, 0, none⟩ (.slice none 0 0)).setCell ⟨w.heap.size, 1, none⟩ (.slice none 0 0)).setCell ⟨w.heap.size, 2, none⟩ (.int .i64 0))) := Lib.hid ((((hb9).setCell (Nat.le_refl _) _).setCell (Nat.le_refl _) _).setCell (Nat.le_refl _) _)
        clear hbx
        go_wp2
        refine bodyPost_ret (v := .tuple #[.agg #[.slice none 0 0, .slice none 0 0, .int .i64 0], .bool false]) (by simp [results, Tryd.results28, go_sem, bz0, bz1, bz2]) rfl ⟨?_, Or.inl ⟨HNO.out, rfl⟩⟩
        exact HBZ.out
      have hat1 : a1 ≤ m := by have h1 := matRd_end hv; rw [hlen.out] at h1; exact h1
      have HM1 := Lib.hid hv
      clear hv
      obtain ⟨u1, hw⟩ : ∃ u1, (((v1.setCell ⟨wr.heap.size, 1, none⟩ (.int .i64 m1.rows)).setCell ⟨wr.heap.size, 2, none⟩ (.int .i64 m1.cols)).setCell ⟨wr.heap.size, 3, none⟩ (.slice c1 n1 k1)) = u1 := ⟨_, rfl⟩
      have hfar : Far (fun y => y = wr.heap.size) v1 u1 := by
        rw [← hw]
        have f0 : Far (fun y => y = wr.heap.size) v1 v1 := Far.refl _ _
        have f1 := f0.st (a := ⟨wr.heap.size, 1, none⟩) (fun _ => rfl) (.int .i64 m1.rows)
        have f2 := f1.st (a := ⟨wr.heap.size, 2, none⟩) (fun _ => rfl) (.int .i64 m1.cols)
        exact f2.st (a := ⟨wr.heap.size, 3, none⟩) (fun _ => rfl) (.slice c1 n1 k1)
      have hLu1 : Box u1 (wr.heap.size) [.int .i64 (kd : Int), .int .i64 m1.rows, .int .i64 m1.cols, .slice c1 n1 k1, .int .i64 0, .int .i64 0, .slice none 0 0] 100 := by rw [← hw]; exact (((hLv1.set 1 _).set 2 _).set 3 _)
      have hGu1 : Box u1 (wr.heap.size + 1) [.int .i64 0, .int .i64 0, .slice none 0 0, .int .i64 0, .int .i64 0, .slice none 0 0] 102 := by rw [← hw]; exact (((hGv1.far (by dsimp only; omega) _).far (by dsimp only; omega) _).far (by dsimp only; omega) _)
      have hSu1 : Box u1 (w.heap.size + 1) [vN, vV, .int .i64 (steps : Int)] 61 := by rw [← hw]; exact (((hSv1.far (by dsimp only; omega) _).far (by dsimp only; omega) _).far (by dsimp only; omega) _)
      have hNu1 : Box u1 (w.heap.size + 1 + 1) [.slice none 0 0, .slice none 0 0, .int .i64 0] 61 := by rw [← hw]; exact (((hNv1.far (by dsimp only; omega) _).far (by dsimp only; omega) _).far (by dsimp only; omega) _)
      have hRu1 : Box u1 w.heap.size [.slice none 0 0, .slice none 0 0, .int .i64 0] 61 := by rw [← hw]; exact (((hRv1.far (by dsimp only; omega) _).far (by dsimp only; omega) _).far (by dsimp only; omega) _)
      have hTu1 : TwoRows Eb u1 (w.heap.size + 1 + 1 + 1) 100 102 vN N vV V := hTv1.farO hfar HON.out HOV.out HEX.out (fun k hk => by have h2 : k = wr.heap.size := hk; omega)
      have hbu1 : Below w.heap.size w u1 := Far.toBelow hbv1 hfar hbv1.size (fun k hk => by have h2 : k = wr.heap.size := hk; omega)
      have hsu1 : wr.heap.size + 1 + 1 ≤ u1.heap.size := Nat.le_trans hsv1 hfar.size
      have x1u1 : IntsAt u1 c1 n1 k1 b1 o1 m1.cells := ints_farS x1v1 hfar (fun hh h2 => by have h3 : b1 = wr.heap.size := h2; have := q1 hh; omega)
      have Hu1 := Lib.hid hw
      clear hw hfar
      clear hLv1 hGv1 hSv1 hNv1 hRv1 hTv1 hbv1 hsv1 x1v1
      have p2 : ((a1 : Int) ≥ 0) = True := eq_true (by omega)
      go_wp2_with fail
      rw [Hu1.out]
      clear z0 z1 z2 y0 y1 y2
      refine (refMatrixAt_any (bs.take m) _ m K b o a1 anyB u1 (HC.out u1 hbu1) hat1).mono ?_
      rintro e v2 ⟨_, m2, y, rfl, ⟨c2, n2, k2, b2, o2, rfl, hn2, xx⟩, hbc, hm⟩
      have hLv2 : Box v2 (wr.heap.size) [.int .i64 (kd : Int), .int .i64 m1.rows, .int .i64 m1.cols, .slice c1 n1 k1, .int .i64 0, .int .i64 0, .slice none 0 0] 100 := hLu1.keep hbc
      have hGv2 : Box v2 (wr.heap.size + 1) [.int .i64 0, .int .i64 0, .slice none 0 0, .int .i64 0, .int .i64 0, .slice none 0 0] 102 := hGu1.keep hbc
      have hSv2 : Box v2 (w.heap.size + 1) [vN, vV, .int .i64 (steps : Int)] 61 := hSu1.keep hbc
      have hNv2 : Box v2 (w.heap.size + 1 + 1) [.slice none 0 0, .slice none 0 0, .int .i64 0] 61 := hNu1.keep hbc
      have hRv2 : Box v2 w.heap.size [.slice none 0 0, .slice none 0 0, .int .i64 0] 61 := hRu1.keep hbc
      have hTv2 : TwoRows Eb v2 (w.heap.size + 1 + 1 + 1) 100 102 vN N vV V := hTu1.keep hbc
      have hbv2 : Below w.heap.size w v2 := hbu1.trans (hbc.mono hbu1.size)
      have hsv2 : wr.heap.size + 1 + 1 ≤ v2.heap.size := Nat.le_trans hsu1 hbc.size
      have x1v2 : IntsAt v2 c1 n1 k1 b1 o1 m1.cells := x1u1.keep hbc
      have x2v2 := xx
      have q2 : 0 < n2 → wr.heap.size + 1 + 1 ≤ b2 := fun hh => Nat.le_trans hsu1 (hn2 hh)
      clear hLu1 hGu1 hSu1 hNu1 hRu1 hTu1 hbu1 hsu1 x1u1
      clear hbc hn2 xx p2
      have z0 := hLv2.cell 4
      have y0 := hLv2.thawed 4
      have z1 := hLv2.cell 5
      have y1 := hLv2.thawed 5
      have z2 := hLv2.cell 6
      have y2 := hLv2.thawed 6
      rcases hm with ⟨a2, hv, rfl⟩ | ⟨hv, rfl⟩
      case inr =>
        have HNO : Hid (staRd bs = none) := Lib.hid (HFAIL.out (by unfold partRd; rw [HK.out]; dsimp only; rw [HM1.out]; dsimp only; rw [hv]))
        have hN9 := (((hNv2.far (a := ⟨wr.heap.size, 4, none⟩) (by dsimp only; omega) (.int .i64 m2.rows)).far (a := ⟨wr.heap.size, 5, none⟩) (by dsimp only; omega) (.int .i64 m2.cols)).far (a := ⟨wr.heap.size, 6, none⟩) (by dsimp only; omega) (.slice c2 n2 k2))
        have hR9 := (((hRv2.far (a := ⟨wr.heap.size, 4, none⟩) (by dsimp only; omega) (.int .i64 m2.rows)).far (a := ⟨wr.heap.size, 5, none⟩) (by dsimp only; omega) (.int .i64 m2.cols)).far (a := ⟨wr.heap.size, 6, none⟩) (by dsimp only; omega) (.slice c2 n2 k2))
        have hb9 : Below w.heap.size w (((v2.setCell ⟨wr.heap.size, 4, none⟩ (.int .i64 m2.rows)).setCell ⟨wr.heap.size, 5, none⟩ (.int .i64 m2.cols)).setCell ⟨wr.heap.size, 6, none⟩ (.slice c2 n2 k2)) := (((hbv2.setCell (by dsimp only; omega) _).setCell (by dsimp only; omega) _).setCell (by dsimp only; omega) _)
        -- the way out where there is no state: the world (((v2.setCell ⟨wr.heap.size, 4, none⟩ (.int .i64 m2.rows)).setCell ⟨wr.heap.size, 5, none⟩ (.int .i64 m2.cols)).setCell ⟨wr.heap.size, 6, none⟩ (.slice c2 n2 k2)), the empty one's box hN9, the result's hR9, Below hb9
        have hbx := ((Box.set (hR9) 0 (.slice none 0 0)).set 1 (.slice none 0 0)).set 2 (.int .i64 0)
        have bz0 := hbx.cell 0
        have bz1 := hbx.cell 1
        have bz2 := hbx.cell 2
        have bn0 := Box.cell (hN9) 0
        have bn1 := Box.cell (hN9) 1
        have bn2 := Box.cell (hN9) 2
        have bk0 := Box.cell (hR9) 0
        have bk1 := Box.cell (hR9) 1
        have bk2 := Box.cell (hR9) 2
        have bt0 := Box.thawed (hR9) 0
        have bt1 := Box.thawed (hR9) 1
        have bt2 := Box.thawed (hR9) 2
        have HBZ : Hid (Below w.heap.size w (((((((v2.setCell ⟨wr.heap.size, 4, none⟩ (.int .i64 m2.rows)).setCell ⟨wr.heap.size, 5, none⟩ (.int .i64 m2.cols)).setCell ⟨wr.heap.size, 6, none⟩ (.slice c2 n2 k2))).setCell ⟨w.heap.size, 0, none⟩ (.slice none 0 0)).setCell ⟨w.heap.size, 1, none⟩ (.slice none 0 0)).setCell ⟨w.heap.size, 2, none⟩ (.int .i64 0))) := Lib.hid ((((hb9).setCell (Nat.le_refl _) _).setCell (Nat.le_refl _) _).setCell (Nat.le_refl _) _)
        clear hbx
        go_wp2
        refine bodyPost_ret (v := .tuple #[.agg #[.slice none 0 0, .slice none 0 0, .int .i64 0], .bool false]) (by simp [results, Tryd.results28, go_sem, bz0, bz1, bz2]) rfl ⟨?_, Or.inl ⟨HNO.out, rfl⟩⟩
        exact HBZ.out
      have hat2 : a2 ≤ m := by have h1 := matRd_end hv; rw [hlen.out] at h1; exact h1
      have HM2 := Lib.hid hv
      clear hv
      obtain ⟨u2, hw⟩ : ∃ u2, (((v2.setCell ⟨wr.heap.size, 4, none⟩ (.int .i64 m2.rows)).setCell ⟨wr.heap.size, 5, none⟩ (.int .i64 m2.cols)).setCell ⟨wr.heap.size, 6, none⟩ (.slice c2 n2 k2)) = u2 := ⟨_, rfl⟩
      have hfar : Far (fun y => y = wr.heap.size) v2 u2 := by
        rw [← hw]
        have f0 : Far (fun y => y = wr.heap.size) v2 v2 := Far.refl _ _
        have f1 := f0.st (a := ⟨wr.heap.size, 4, none⟩) (fun _ => rfl) (.int .i64 m2.rows)
        have f2 := f1.st (a := ⟨wr.heap.size, 5, none⟩) (fun _ => rfl) (.int .i64 m2.cols)
        exact f2.st (a := ⟨wr.heap.size, 6, none⟩) (fun _ => rfl) (.slice c2 n2 k2)
      have hLu2 : Box u2 (wr.heap.size) [.int .i64 (kd : Int), .int .i64 m1.rows, .int .i64 m1.cols, .slice c1 n1 k1, .int .i64 m2.rows, .int .i64 m2.cols, .slice c2 n2 k2] 100 := by rw [← hw]; exact (((hLv2.set 4 _).set 5 _).set 6 _)
      have hGu2 : Box u2 (wr.heap.size + 1) [.int .i64 0, .int .i64 0, .slice none 0 0, .int .i64 0, .int .i64 0, .slice none 0 0] 102 := by rw [← hw]; exact (((hGv2.far (by dsimp only; omega) _).far (by dsimp only; omega) _).far (by dsimp only; omega) _)
      have hSu2 : Box u2 (w.heap.size + 1) [vN, vV, .int .i64 (steps : Int)] 61 := by rw [← hw]; exact (((hSv2.far (by dsimp only; omega) _).far (by dsimp only; omega) _).far (by dsimp only; omega) _)
      have hNu2 : Box u2 (w.heap.size + 1 + 1) [.slice none 0 0, .slice none 0 0, .int .i64 0] 61 := by rw [← hw]; exact (((hNv2.far (by dsimp only; omega) _).far (by dsimp only; omega) _).far (by dsimp only; omega) _)
      have hRu2 : Box u2 w.heap.size [.slice none 0 0, .slice none 0 0, .int .i64 0] 61 := by rw [← hw]; exact (((hRv2.far (by dsimp only; omega) _).far (by dsimp only; omega) _).far (by dsimp only; omega) _)
      have hTu2 : TwoRows Eb u2 (w.heap.size + 1 + 1 + 1) 100 102 vN N vV V := hTv2.farO hfar HON.out HOV.out HEX.out (fun k hk => by have h2 : k = wr.heap.size := hk; omega)
      have hbu2 : Below w.heap.size w u2 := Far.toBelow hbv2 hfar hbv2.size (fun k hk => by have h2 : k = wr.heap.size := hk; omega)
      have hsu2 : wr.heap.size + 1 + 1 ≤ u2.heap.size := Nat.le_trans hsv2 hfar.size
      have x1u2 : IntsAt u2 c1 n1 k1 b1 o1 m1.cells := ints_farS x1v2 hfar (fun hh h2 => by have h3 : b1 = wr.heap.size := h2; have := q1 hh; omega)
      have x2u2 : IntsAt u2 c2 n2 k2 b2 o2 m2.cells := ints_farS x2v2 hfar (fun hh h2 => by have h3 : b2 = wr.heap.size := h2; have := q2 hh; omega)
      have Hu2 := Lib.hid hw
      clear hw hfar
      clear hLv2 hGv2 hSv2 hNv2 hRv2 hTv2 hbv2 hsv2 x1v2 x2v2
      have p3 : ((a2 : Int) ≥ 0) = True := eq_true (by omega)
      go_wp2_with fail
      rw [Hu2.out]
      clear z0 z1 z2 y0 y1 y2
      refine (refMatrixAt_any (bs.take m) _ m K b o a2 anyB u2 (HC.out u2 hbu2) hat2).mono ?_
      rintro e v3 ⟨_, m3, y, rfl, ⟨c3, n3, k3, b3, o3, rfl, hn3, xx⟩, hbc, hm⟩
      have hLv3 : Box v3 (wr.heap.size) [.int .i64 (kd : Int), .int .i64 m1.rows, .int .i64 m1.cols, .slice c1 n1 k1, .int .i64 m2.rows, .int .i64 m2.cols, .slice c2 n2 k2] 100 := hLu2.keep hbc
      have hGv3 : Box v3 (wr.heap.size + 1) [.int .i64 0, .int .i64 0, .slice none 0 0, .int .i64 0, .int .i64 0, .slice none 0 0] 102 := hGu2.keep hbc
      have hSv3 : Box v3 (w.heap.size + 1) [vN, vV, .int .i64 (steps : Int)] 61 := hSu2.keep hbc
      have hNv3 : Box v3 (w.heap.size + 1 + 1) [.slice none 0 0, .slice none 0 0, .int .i64 0] 61 := hNu2.keep hbc
      have hRv3 : Box v3 w.heap.size [.slice none 0 0, .slice none 0 0, .int .i64 0] 61 := hRu2.keep hbc
      have hTv3 : TwoRows Eb v3 (w.heap.size + 1 + 1 + 1) 100 102 vN N vV V := hTu2.keep hbc
      have hbv3 : Below w.heap.size w v3 := hbu2.trans (hbc.mono hbu2.size)
      have hsv3 : wr.heap.size + 1 + 1 ≤ v3.heap.size := Nat.le_trans hsu2 hbc.size
      have x1v3 : IntsAt v3 c1 n1 k1 b1 o1 m1.cells := x1u2.keep hbc
      have x2v3 : IntsAt v3 c2 n2 k2 b2 o2 m2.cells := x2u2.keep hbc
      have x3v3 := xx
      have q3 : 0 < n3 → wr.heap.size + 1 + 1 ≤ b3 := fun hh => Nat.le_trans hsu2 (hn3 hh)
      clear hLu2 hGu2 hSu2 hNu2 hRu2 hTu2 hbu2 hsu2 x1u2 x2u2
      clear hbc hn3 xx p3
      have z0 := hGv3.cell 0
      have y0 := hGv3.thawed 0
      have z1 := hGv3.cell 1
      have y1 := hGv3.thawed 1
      have z2 := hGv3.cell 2
      have y2 := hGv3.thawed 2
      rcases hm with ⟨a3, hv, rfl⟩ | ⟨hv, rfl⟩
      case inr =>
        have HNO : Hid (staRd bs = none) := Lib.hid (HFAIL.out (by unfold partRd; rw [HK.out]; dsimp only; rw [HM1.out]; dsimp only; rw [HM2.out]; dsimp only; rw [hv]))
        have hN9 := (((hNv3.far (a := ⟨wr.heap.size + 1, 0, none⟩) (by dsimp only; omega) (.int .i64 m3.rows)).far (a := ⟨wr.heap.size + 1, 1, none⟩) (by dsimp only; omega) (.int .i64 m3.cols)).far (a := ⟨wr.heap.size + 1, 2, none⟩) (by dsimp only; omega) (.slice c3 n3 k3))
        have hR9 := (((hRv3.far (a := ⟨wr.heap.size + 1, 0, none⟩) (by dsimp only; omega) (.int .i64 m3.rows)).far (a := ⟨wr.heap.size + 1, 1, none⟩) (by dsimp only; omega) (.int .i64 m3.cols)).far (a := ⟨wr.heap.size + 1, 2, none⟩) (by dsimp only; omega) (.slice c3 n3 k3))
        have hb9 : Below w.heap.size w (((v3.setCell ⟨wr.heap.size + 1, 0, none⟩ (.int .i64 m3.rows)).setCell ⟨wr.heap.size + 1, 1, none⟩ (.int .i64 m3.cols)).setCell ⟨wr.heap.size + 1, 2, none⟩ (.slice c3 n3 k3)) := (((hbv3.setCell (by dsimp only; omega) _).setCell (by dsimp only; omega) _).setCell (by dsimp only; omega) _)
        -- the way out where there is no state: the world (((v3.setCell ⟨wr.heap.size + 1, 0, none⟩ (.int .i64 m3.rows)).setCell ⟨wr.heap.size + 1, 1, none⟩ (.int .i64 m3.cols)).setCell ⟨wr.heap.size + 1, 2, none⟩ (.slice c3 n3 k3)), the empty one's box hN9, the result's hR9, Below hb9
        have hbx := ((Box.set (hR9) 0 (.slice none 0 0)).set 1 (.slice none 0 0)).set 2 (.int .i64 0)
        have bz0 := hbx.cell 0
        have bz1 := hbx.cell 1
        have bz2 := hbx.cell 2
        have bn0 := Box.cell (hN9) 0
        have bn1 := Box.cell (hN9) 1
        have bn2 := Box.cell (hN9) 2
        have bk0 := Box.cell (hR9) 0
        have bk1 := Box.cell (hR9) 1
        have bk2 := Box.cell (hR9) 2
        have bt0 := Box.thawed (hR9) 0
        have bt1 := Box.thawed (hR9) 1
        have bt2 := Box.thawed (hR9) 2
        have HBZ : Hid (Below w.heap.size w (((((((v3.setCell ⟨wr.heap.size + 1, 0, none⟩ (.int .i64 m3.rows)).setCell ⟨wr.heap.size + 1, 1, none⟩ (.int .i64 m3.cols)).setCell ⟨wr.heap.size + 1, 2, none⟩ (.slice c3 n3 k3))).setCell ⟨w.heap.size, 0, none⟩ (.slice none 0 0)).setCell ⟨w.heap.size, 1, none⟩ (.slice none 0 0)).setCell ⟨w.heap.size, 2, none⟩ (.int .i64 0))) := Lib.hid ((((hb9).setCell (Nat.le_refl _) _).setCell (Nat.le_refl _) _).setCell (Nat.le_refl _) _)
        clear hbx
        go_wp2
        refine bodyPost_ret (v := .tuple #[.agg #[.slice none 0 0, .slice none 0 0, .int .i64 0], .bool false]) (by simp [results, Tryd.results28, go_sem, bz0, bz1, bz2]) rfl ⟨?_, Or.inl ⟨HNO.out, rfl⟩⟩
        exact HBZ.out
      have hat3 : a3 ≤ m := by have h1 := matRd_end hv; rw [hlen.out] at h1; exact h1
      have HM3 := Lib.hid hv
      clear hv
      obtain ⟨u3, hw⟩ : ∃ u3, (((v3.setCell ⟨wr.heap.size + 1, 0, none⟩ (.int .i64 m3.rows)).setCell ⟨wr.heap.size + 1, 1, none⟩ (.int .i64 m3.cols)).setCell ⟨wr.heap.size + 1, 2, none⟩ (.slice c3 n3 k3)) = u3 := ⟨_, rfl⟩
      have hfar : Far (fun y => y = wr.heap.size + 1) v3 u3 := by
        rw [← hw]
        have f0 : Far (fun y => y = wr.heap.size + 1) v3 v3 := Far.refl _ _
        have f1 := f0.st (a := ⟨wr.heap.size + 1, 0, none⟩) (fun _ => rfl) (.int .i64 m3.rows)
        have f2 := f1.st (a := ⟨wr.heap.size + 1, 1, none⟩) (fun _ => rfl) (.int .i64 m3.cols)
        exact f2.st (a := ⟨wr.heap.size + 1, 2, none⟩) (fun _ => rfl) (.slice c3 n3 k3)
      have hLu3 : Box u3 (wr.heap.size) [.int .i64 (kd : Int), .int .i64 m1.rows, .int .i64 m1.cols, .slice c1 n1 k1, .int .i64 m2.rows, .int .i64 m2.cols, .slice c2 n2 k2] 100 := by rw [← hw]; exact (((hLv3.far (by dsimp only; omega) _).far (by dsimp only; omega) _).far (by dsimp only; omega) _)
      have hGu3 : Box u3 (wr.heap.size + 1) [.int .i64 m3.rows, .int .i64 m3.cols, .slice c3 n3 k3, .int .i64 0, .int .i64 0, .slice none 0 0] 102 := by rw [← hw]; exact (((hGv3.set 0 _).set 1 _).set 2 _)
      have hSu3 : Box u3 (w.heap.size + 1) [vN, vV, .int .i64 (steps : Int)] 61 := by rw [← hw]; exact (((hSv3.far (by dsimp only; omega) _).far (by dsimp only; omega) _).far (by dsimp only; omega) _)
      have hNu3 : Box u3 (w.heap.size + 1 + 1) [.slice none 0 0, .slice none 0 0, .int .i64 0] 61 := by rw [← hw]; exact (((hNv3.far (by dsimp only; omega) _).far (by dsimp only; omega) _).far (by dsimp only; omega) _)
      have hRu3 : Box u3 w.heap.size [.slice none 0 0, .slice none 0 0, .int .i64 0] 61 := by rw [← hw]; exact (((hRv3.far (by dsimp only; omega) _).far (by dsimp only; omega) _).far (by dsimp only; omega) _)
      have hTu3 : TwoRows Eb u3 (w.heap.size + 1 + 1 + 1) 100 102 vN N vV V := hTv3.farO hfar HON.out HOV.out HEX.out (fun k hk => by have h2 : k = wr.heap.size + 1 := hk; omega)
      have hbu3 : Below w.heap.size w u3 := Far.toBelow hbv3 hfar hbv3.size (fun k hk => by have h2 : k = wr.heap.size + 1 := hk; omega)
      have hsu3 : wr.heap.size + 1 + 1 ≤ u3.heap.size := Nat.le_trans hsv3 hfar.size
      have x1u3 : IntsAt u3 c1 n1 k1 b1 o1 m1.cells := ints_farS x1v3 hfar (fun hh h2 => by have h3 : b1 = wr.heap.size + 1 := h2; have := q1 hh; omega)
      have x2u3 : IntsAt u3 c2 n2 k2 b2 o2 m2.cells := ints_farS x2v3 hfar (fun hh h2 => by have h3 : b2 = wr.heap.size + 1 := h2; have := q2 hh; omega)
      have x3u3 : IntsAt u3 c3 n3 k3 b3 o3 m3.cells := ints_farS x3v3 hfar (fun hh h2 => by have h3 : b3 = wr.heap.size + 1 := h2; have := q3 hh; omega)
      have Hu3 := Lib.hid hw
      clear hw hfar
      clear hLv3 hGv3 hSv3 hNv3 hRv3 hTv3 hbv3 hsv3 x1v3 x2v3 x3v3
      have p4 : ((a3 : Int) ≥ 0) = True := eq_true (by omega)
      go_wp2_with fail
      rw [Hu3.out]
      clear z0 z1 z2 y0 y1 y2
      refine (refMatrixAt_any (bs.take m) _ m K b o a3 anyB u3 (HC.out u3 hbu3) hat3).mono ?_
      rintro e v4 ⟨_, m4, y, rfl, ⟨c4, n4, k4, b4, o4, rfl, hn4, xx⟩, hbc, hm⟩
      have hLv4 : Box v4 (wr.heap.size) [.int .i64 (kd : Int), .int .i64 m1.rows, .int .i64 m1.cols, .slice c1 n1 k1, .int .i64 m2.rows, .int .i64 m2.cols, .slice c2 n2 k2] 100 := hLu3.keep hbc
      have hGv4 : Box v4 (wr.heap.size + 1) [.int .i64 m3.rows, .int .i64 m3.cols, .slice c3 n3 k3, .int .i64 0, .int .i64 0, .slice none 0 0] 102 := hGu3.keep hbc
      have hSv4 : Box v4 (w.heap.size + 1) [vN, vV, .int .i64 (steps : Int)] 61 := hSu3.keep hbc
      have hNv4 : Box v4 (w.heap.size + 1 + 1) [.slice none 0 0, .slice none 0 0, .int .i64 0] 61 := hNu3.keep hbc
      have hRv4 : Box v4 w.heap.size [.slice none 0 0, .slice none 0 0, .int .i64 0] 61 := hRu3.keep hbc
      have hTv4 : TwoRows Eb v4 (w.heap.size + 1 + 1 + 1) 100 102 vN N vV V := hTu3.keep hbc
      have hbv4 : Below w.heap.size w v4 := hbu3.trans (hbc.mono hbu3.size)
      have hsv4 : wr.heap.size + 1 + 1 ≤ v4.heap.size := Nat.le_trans hsu3 hbc.size
      have x1v4 : IntsAt v4 c1 n1 k1 b1 o1 m1.cells := x1u3.keep hbc
      have x2v4 : IntsAt v4 c2 n2 k2 b2 o2 m2.cells := x2u3.keep hbc
      have x3v4 : IntsAt v4 c3 n3 k3 b3 o3 m3.cells := x3u3.keep hbc
      have x4v4 := xx
      have q4 : 0 < n4 → wr.heap.size + 1 + 1 ≤ b4 := fun hh => Nat.le_trans hsu3 (hn4 hh)
      clear hLu3 hGu3 hSu3 hNu3 hRu3 hTu3 hbu3 hsu3 x1u3 x2u3 x3u3
      clear hbc hn4 xx p4
      have z0 := hGv4.cell 3
      have y0 := hGv4.thawed 3
      have z1 := hGv4.cell 4
      have y1 := hGv4.thawed 4
      have z2 := hGv4.cell 5
      have y2 := hGv4.thawed 5
      rcases hm with ⟨a4, hv, rfl⟩ | ⟨hv, rfl⟩
      case inr =>
        have HNO : Hid (staRd bs = none) := Lib.hid (HFAIL.out (by unfold partRd; rw [HK.out]; dsimp only; rw [HM1.out]; dsimp only; rw [HM2.out]; dsimp only; rw [HM3.out]; dsimp only; rw [hv]))
        have hN9 := (((hNv4.far (a := ⟨wr.heap.size + 1, 3, none⟩) (by dsimp only; omega) (.int .i64 m4.rows)).far (a := ⟨wr.heap.size + 1, 4, none⟩) (by dsimp only; omega) (.int .i64 m4.cols)).far (a := ⟨wr.heap.size + 1, 5, none⟩) (by dsimp only; omega) (.slice c4 n4 k4))
        have hR9 := (((hRv4.far (a := ⟨wr.heap.size + 1, 3, none⟩) (by dsimp only; omega) (.int .i64 m4.rows)).far (a := ⟨wr.heap.size + 1, 4, none⟩) (by dsimp only; omega) (.int .i64 m4.cols)).far (a := ⟨wr.heap.size + 1, 5, none⟩) (by dsimp only; omega) (.slice c4 n4 k4))
        have hb9 : Below w.heap.size w (((v4.setCell ⟨wr.heap.size + 1, 3, none⟩ (.int .i64 m4.rows)).setCell ⟨wr.heap.size + 1, 4, none⟩ (.int .i64 m4.cols)).setCell ⟨wr.heap.size + 1, 5, none⟩ (.slice c4 n4 k4)) := (((hbv4.setCell (by dsimp only; omega) _).setCell (by dsimp only; omega) _).setCell (by dsimp only; omega) _)
        -- the way out where there is no state: the world (((v4.setCell ⟨wr.heap.size + 1, 3, none⟩ (.int .i64 m4.rows)).setCell ⟨wr.heap.size + 1, 4, none⟩ (.int .i64 m4.cols)).setCell ⟨wr.heap.size + 1, 5, none⟩ (.slice c4 n4 k4)), the empty one's box hN9, the result's hR9, Below hb9
        have hbx := ((Box.set (hR9) 0 (.slice none 0 0)).set 1 (.slice none 0 0)).set 2 (.int .i64 0)
        have bz0 := hbx.cell 0
        have bz1 := hbx.cell 1
        have bz2 := hbx.cell 2
        have bn0 := Box.cell (hN9) 0
        have bn1 := Box.cell (hN9) 1
        have bn2 := Box.cell (hN9) 2
        have bk0 := Box.cell (hR9) 0
        have bk1 := Box.cell (hR9) 1
        have bk2 := Box.cell (hR9) 2
        have bt0 := Box.thawed (hR9) 0
        have bt1 := Box.thawed (hR9) 1
        have bt2 := Box.thawed (hR9) 2
        have HBZ : Hid (Below w.heap.size w (((((((v4.setCell ⟨wr.heap.size + 1, 3, none⟩ (.int .i64 m4.rows)).setCell ⟨wr.heap.size + 1, 4, none⟩ (.int .i64 m4.cols)).setCell ⟨wr.heap.size + 1, 5, none⟩ (.slice c4 n4 k4))).setCell ⟨w.heap.size, 0, none⟩ (.slice none 0 0)).setCell ⟨w.heap.size, 1, none⟩ (.slice none 0 0)).setCell ⟨w.heap.size, 2, none⟩ (.int .i64 0))) := Lib.hid ((((hb9).setCell (Nat.le_refl _) _).setCell (Nat.le_refl _) _).setCell (Nat.le_refl _) _)
        clear hbx
        go_wp2
        refine bodyPost_ret (v := .tuple #[.agg #[.slice none 0 0, .slice none 0 0, .int .i64 0], .bool false]) (by simp [results, Tryd.results28, go_sem, bz0, bz1, bz2]) rfl ⟨?_, Or.inl ⟨HNO.out, rfl⟩⟩
        exact HBZ.out
      have hat4 : a4 ≤ m := by have h1 := matRd_end hv; rw [hlen.out] at h1; exact h1
      have HM4 := Lib.hid hv
      clear hv
      obtain ⟨u4, hw⟩ : ∃ u4, (((v4.setCell ⟨wr.heap.size + 1, 3, none⟩ (.int .i64 m4.rows)).setCell ⟨wr.heap.size + 1, 4, none⟩ (.int .i64 m4.cols)).setCell ⟨wr.heap.size + 1, 5, none⟩ (.slice c4 n4 k4)) = u4 := ⟨_, rfl⟩
      have hfar : Far (fun y => y = wr.heap.size + 1) v4 u4 := by
        rw [← hw]
        have f0 : Far (fun y => y = wr.heap.size + 1) v4 v4 := Far.refl _ _
        have f1 := f0.st (a := ⟨wr.heap.size + 1, 3, none⟩) (fun _ => rfl) (.int .i64 m4.rows)
        have f2 := f1.st (a := ⟨wr.heap.size + 1, 4, none⟩) (fun _ => rfl) (.int .i64 m4.cols)
        exact f2.st (a := ⟨wr.heap.size + 1, 5, none⟩) (fun _ => rfl) (.slice c4 n4 k4)
      have hLu4 : Box u4 (wr.heap.size) [.int .i64 (kd : Int), .int .i64 m1.rows, .int .i64 m1.cols, .slice c1 n1 k1, .int .i64 m2.rows, .int .i64 m2.cols, .slice c2 n2 k2] 100 := by rw [← hw]; exact (((hLv4.far (by dsimp only; omega) _).far (by dsimp only; omega) _).far (by dsimp only; omega) _)
      have hGu4 : Box u4 (wr.heap.size + 1) [.int .i64 m3.rows, .int .i64 m3.cols, .slice c3 n3 k3, .int .i64 m4.rows, .int .i64 m4.cols, .slice c4 n4 k4] 102 := by rw [← hw]; exact (((hGv4.set 3 _).set 4 _).set 5 _)
      have hSu4 : Box u4 (w.heap.size + 1) [vN, vV, .int .i64 (steps : Int)] 61 := by rw [← hw]; exact (((hSv4.far (by dsimp only; omega) _).far (by dsimp only; omega) _).far (by dsimp only; omega) _)
      have hNu4 : Box u4 (w.heap.size + 1 + 1) [.slice none 0 0, .slice none 0 0, .int .i64 0] 61 := by rw [← hw]; exact (((hNv4.far (by dsimp only; omega) _).far (by dsimp only; omega) _).far (by dsimp only; omega) _)
      have hRu4 : Box u4 w.heap.size [.slice none 0 0, .slice none 0 0, .int .i64 0] 61 := by rw [← hw]; exact (((hRv4.far (by dsimp only; omega) _).far (by dsimp only; omega) _).far (by dsimp only; omega) _)
      have hTu4 : TwoRows Eb u4 (w.heap.size + 1 + 1 + 1) 100 102 vN N vV V := hTv4.farO hfar HON.out HOV.out HEX.out (fun k hk => by have h2 : k = wr.heap.size + 1 := hk; omega)
      have hbu4 : Below w.heap.size w u4 := Far.toBelow hbv4 hfar hbv4.size (fun k hk => by have h2 : k = wr.heap.size + 1 := hk; omega)
      have hsu4 : wr.heap.size + 1 + 1 ≤ u4.heap.size := Nat.le_trans hsv4 hfar.size
      have x1u4 : IntsAt u4 c1 n1 k1 b1 o1 m1.cells := ints_farS x1v4 hfar (fun hh h2 => by have h3 : b1 = wr.heap.size + 1 := h2; have := q1 hh; omega)
      have x2u4 : IntsAt u4 c2 n2 k2 b2 o2 m2.cells := ints_farS x2v4 hfar (fun hh h2 => by have h3 : b2 = wr.heap.size + 1 := h2; have := q2 hh; omega)
      have x3u4 : IntsAt u4 c3 n3 k3 b3 o3 m3.cells := ints_farS x3v4 hfar (fun hh h2 => by have h3 : b3 = wr.heap.size + 1 := h2; have := q3 hh; omega)
      have x4u4 : IntsAt u4 c4 n4 k4 b4 o4 m4.cells := ints_farS x4v4 hfar (fun hh h2 => by have h3 : b4 = wr.heap.size + 1 := h2; have := q4 hh; omega)
      have Hu4 := Lib.hid hw
      clear hw hfar
      clear hLv4 hGv4 hSv4 hNv4 hRv4 hTv4 hbv4 hsv4 x1v4 x2v4 x3v4 x4v4
      have HP : Hid (partRd (bs.take m) atq = some (⟨(kd : Int), m1, m2⟩, ⟨m3, m4⟩, a4)) := Lib.hid (by unfold partRd; rw [HK.out]; dsimp only; rw [HM1.out]; dsimp only; rw [HM2.out]; dsimp only; rw [HM3.out]; dsimp only; rw [HM4.out])
      have p4 : ((a4 : Int) < 0) = False := eq_false (by omega)
      go_upto_region 33 with (fail)
      rw [Hu4.out]
      clear z0 z1 z2 y0 y1 y2 p4
      have hTB := hTu4.more (P := fun q => (0 < n1 ∧ q = b1) ∨ (0 < n2 ∧ q = b2) ∨ (0 < n3 ∧ q = b3) ∨ (0 < n4 ∧ q = b4)) (m := wr.heap.size) (fun k hk => (HON.out k hk).2) (fun k hk => (HOV.out k hk).2) (by omega) (fun q hq => by
        rcases hq with ⟨hh, rfl⟩ | ⟨hh, rfl⟩ | ⟨hh, rfl⟩ | ⟨hh, rfl⟩
        · exact ⟨x1u4.lt hh, by have := q1 hh; omega⟩
        · exact ⟨x2u4.lt hh, by have := q2 hh; omega⟩
        · exact ⟨x3u4.lt hh, by have := q3 hh; omega⟩
        · exact ⟨x4u4.lt hh, by have := q4 hh; omega⟩)
      obtain ⟨E', hE'⟩ : ∃ E' : Nat → Prop, E' = fun b => Eb b ∨ ((0 < n1 ∧ b = b1) ∨ (0 < n2 ∧ b = b2) ∨ (0 < n3 ∧ b = b3) ∨ (0 < n4 ∧ b = b4)) := ⟨_, rfl⟩
      have r1 : 0 < n1 → E' b1 ∧ vN.ownBlock ≠ some b1 := fun hh => by have e : E' b1 := (by rw [hE']; exact Or.inr (Or.inl ⟨hh, rfl⟩)); rw [hE'] at e; exact ⟨by rw [hE']; exact e, (hTB.ext _ e).2.2.1⟩
      have r2 : 0 < n2 → E' b2 ∧ vN.ownBlock ≠ some b2 := fun hh => by have e : E' b2 := (by rw [hE']; exact Or.inr (Or.inr (Or.inl ⟨hh, rfl⟩))); rw [hE'] at e; exact ⟨by rw [hE']; exact e, (hTB.ext _ e).2.2.1⟩
      have r3 : 0 < n3 → E' b3 ∧ vV.ownBlock ≠ some b3 := fun hh => by have e : E' b3 := (by rw [hE']; exact Or.inr (Or.inr (Or.inr (Or.inl ⟨hh, rfl⟩)))); rw [hE'] at e; exact ⟨by rw [hE']; exact e, (hTB.ext _ e).2.2.2⟩
      have r4 : 0 < n4 → E' b4 ∧ vV.ownBlock ≠ some b4 := fun hh => by have e : E' b4 := (by rw [hE']; exact Or.inr (Or.inr (Or.inr (Or.inr ⟨hh, rfl⟩)))); rw [hE'] at e; exact ⟨by rw [hE']; exact e, (hTB.ext _ e).2.2.2⟩
      rw [← hE'] at hTB
      clear hE'
      have d0 := hSu4.cell 0
      have d1 := hSu4.cell 1
      have e0 := hLu4.cell 0
      have e1 := hLu4.cell 1
      have e2 := hLu4.cell 2
      have e3 := hLu4.cell 3
      have e4 := hLu4.cell 4
      have e5 := hLu4.cell 5
      have e6 := hLu4.cell 6
      have HNM : Hid ((N.length + 1) * 88 ≤ 140737488355328) := Lib.hid (by rw [hNl]; have := HC7.out; omega)
      have HNM' : Hid (N.length + 1 ≤ maxLen) := Lib.hid (by rw [hNl]; have := HC7.out; unfold maxLen; omega)
      have HVM : Hid ((V.length + 1) * 80 ≤ 140737488355328) := Lib.hid (by rw [hVl]; have := HC7.out; omega)
      have HVM' : Hid (V.length + 1 ≤ maxLen) := Lib.hid (by rw [hVl]; have := HC7.out; unfold maxLen; omega)
      go_wp2_with (at_builtin; refine wpList_push rfl (.tmp 131) (.tmp 133) 58 rfl Form.lay (w.heap.size + 1 + 1 + 1) E' 100 i0 (.agg #[.int .i64 0, .int .i64 0, .int .i64 0, .slice none 0 0, .int .i64 0, .int .i64 0, .slice none 0 0]) 88 Tryd.underlying58 hi hz0 hz1 hz2 rfl (by decide) vN N rfl ?c1 u4.heap.size 1 [.int .i64 (kd : Int), .int .i64 m1.rows, .int .i64 m1.cols, .slice c1 n1 k1, .int .i64 m2.rows, .int .i64 m2.cols, .slice c2 n2 k2] 100 ⟨kd, m1, m2⟩ rfl ?c2 ?c3 ?c4 ?c5 ?c6 _ rfl ?_)
      case c1 => exact OwnRow.keep hTB.own1 (by repeat (first | fail | (with_reducible exact Below.refl _ _) | (with_reducible refine Below.al ?_ _) | (with_reducible refine Below.drN ?_ _) | (with_reducible refine Below.drew ?_) | (with_reducible refine Below.st ?_ ?_ _; rotate_left 1; (first | (dsimp only; omega) | omega | (simp; omega) | simp)) | exact Below.refl _ _))
      case c2 => exact (by repeat (first | fail | (with_reducible refine (Box.new' _ u4.heap.size _ _ ?_); (simp; done)) | (with_reducible refine Box.alloc ?_ _) | (with_reducible refine Box.drewN ?_ _) | (with_reducible refine Box.drew ?_) | (with_reducible refine Box.far ?_ ?_ _; rotate_left 1; (first | (dsimp only; omega) | omega | (simp; omega) | simp))))
      case c3 => exact reads_lay (l := ⟨kd, m1, m2⟩) (F := fun b => E' b ∧ vN.ownBlock ≠ some b) (b := b1) (b' := b2) (o := o1) (o' := o2) r1 (by repeat (first | fail | (with_reducible exact x1u4) | (with_reducible refine IntsAt.alloc ?_ _) | (with_reducible refine IntsAt.drewN ?_ _) | (with_reducible refine IntsAt.drew ?_) | (with_reducible refine IntsAt.set ?_ ?_ _; rotate_left 1; (intro h0; first | (dsimp only; omega) | omega | (simp; omega) | simp)) | exact x1u4)) r2 (by repeat (first | fail | (with_reducible exact x2u4) | (with_reducible refine IntsAt.alloc ?_ _) | (with_reducible refine IntsAt.drewN ?_ _) | (with_reducible refine IntsAt.drew ?_) | (with_reducible refine IntsAt.set ?_ ?_ _; rotate_left 1; (intro h0; first | (dsimp only; omega) | omega | (simp; omega) | simp)) | exact x2u4))
      case c4 => exact HNM.out
      case c5 => exact HNM'.out
      case c6 => simp; omega
      intro g1 cap1 wG hown1 hgrow hlies hlt1
      have hTW := (hTB.keep (w' := u4.alloc (.cells #[.int .i64 (kd : Int), .int .i64 m1.rows, .int .i64 m1.cols, .slice c1 n1 k1, .int .i64 m2.rows, .int .i64 m2.cols, .slice c2 n2 k2] 100)) (by repeat (first | fail | (with_reducible exact Below.refl _ _) | (with_reducible refine Below.al ?_ _) | (with_reducible refine Below.drN ?_ _) | (with_reducible refine Below.drew ?_) | (with_reducible refine Below.st ?_ ?_ _; rotate_left 1; (first | (dsimp only; omega) | omega | (simp; omega) | simp)) | exact Below.refl _ _))).first (by decide) hown1 hgrow (hlies.imp_right (fun e => by rw [e]; simp))
      have HO9 : Hid (∀ k, wr.heap.size ≤ k ∨ k < w.heap.size + 1 + 1 + 1 → some k ≠ vN.ownBlock) := Lib.hid (fun k hk e => by have := HON.out k e.symm; omega)
      have hSG := Box.grown (hSu4.alloc (.cells #[.int .i64 (kd : Int), .int .i64 m1.rows, .int .i64 m1.cols, .slice c1 n1 k1, .int .i64 m2.rows, .int .i64 m2.cols, .slice c2 n2 k2] 100)) hgrow (HO9.out _ (by omega))
      have hGG := Box.grown (hGu4.alloc (.cells #[.int .i64 (kd : Int), .int .i64 m1.rows, .int .i64 m1.cols, .slice c1 n1 k1, .int .i64 m2.rows, .int .i64 m2.cols, .slice c2 n2 k2] 100)) hgrow (HO9.out _ (by omega))
      have hNG := Box.grown (hNu4.alloc (.cells #[.int .i64 (kd : Int), .int .i64 m1.rows, .int .i64 m1.cols, .slice c1 n1 k1, .int .i64 m2.rows, .int .i64 m2.cols, .slice c2 n2 k2] 100)) hgrow (HO9.out _ (by omega))
      have hRG := Box.grown (hRu4.alloc (.cells #[.int .i64 (kd : Int), .int .i64 m1.rows, .int .i64 m1.cols, .slice c1 n1 k1, .int .i64 m2.rows, .int .i64 m2.cols, .slice c2 n2 k2] 100)) hgrow (HO9.out _ (by omega))
      have u9 := IntsAt.grown (x3u4.alloc (.cells #[.int .i64 (kd : Int), .int .i64 m1.rows, .int .i64 m1.cols, .slice c1 n1 k1, .int .i64 m2.rows, .int .i64 m2.cols, .slice c2 n2 k2] 100)) hgrow (fun hh => HO9.out _ (by have := q3 hh; omega))
      have uA := IntsAt.grown (x4u4.alloc (.cells #[.int .i64 (kd : Int), .int .i64 m1.rows, .int .i64 m1.cols, .slice c1 n1 k1, .int .i64 m2.rows, .int .i64 m2.cols, .slice c2 n2 k2] 100)) hgrow (fun hh => HO9.out _ (by have := q4 hh; omega))
      have hbG : Below w.heap.size w wG := Below.grown (show Below w.heap.size w _ from (by repeat (first | fail | (with_reducible exact Below.refl _ _) | (with_reducible exact hbu4) | (with_reducible refine Below.al ?_ _) | (with_reducible refine Below.drN ?_ _) | (with_reducible refine Below.drew ?_) | (with_reducible refine Below.st ?_ ?_ _; rotate_left 1; (first | (dsimp only; omega) | omega | (simp; omega) | simp)) | exact Below.refl _ _ | exact hbu4))) hgrow (by have := hbu4.size; simp; omega) (fun q hq => by have := (HON.out q hq).1; omega)
      have hsG : wr.heap.size + 1 + 1 + 1 ≤ wG.heap.size := by have h := hgrow.size; simp at h; omega
      clear hown1 hgrow hlies hlt1 hTB hSu4 hGu4 hNu4 hRu4 hLu4 hTu4 hbu4 hsu4 x1u4 x2u4 x3u4 x4u4 d0 d1 e0 e1 e2 e3 e4 e5 e6 r1 r2
      have hS9 := hSG.set 0 (.slice (some ⟨g1, 0, none⟩) (t + 1) cap1)
      have hG9 := hGG.far (a := ⟨w.heap.size + 1, 0, none⟩) (by dsimp only; omega) (.slice (some ⟨g1, 0, none⟩) (t + 1) cap1)
      have hN9 := hNG.far (a := ⟨w.heap.size + 1, 0, none⟩) (by dsimp only; omega) (.slice (some ⟨g1, 0, none⟩) (t + 1) cap1)
      have hR9 := hRG.far (a := ⟨w.heap.size + 1, 0, none⟩) (by dsimp only; omega) (.slice (some ⟨g1, 0, none⟩) (t + 1) cap1)
      have hT9 := hTW.set (a := ⟨w.heap.size + 1, 0, none⟩) (by dsimp only; omega) (.slice (some ⟨g1, 0, none⟩) (t + 1) cap1)
      have hb9 : Below w.heap.size w (wG.setCell ⟨w.heap.size + 1, 0, none⟩ (.slice (some ⟨g1, 0, none⟩) (t + 1) cap1)) := hbG.setCell (by dsimp only; omega) _
      have i9 : IntsAt (wG.setCell ⟨w.heap.size + 1, 0, none⟩ (.slice (some ⟨g1, 0, none⟩) (t + 1) cap1)) c3 n3 k3 b3 o3 m3.cells := IntsAt.set u9 (fun hh => by dsimp only; have := q3 hh; omega) _
      have iA : IntsAt (wG.setCell ⟨w.heap.size + 1, 0, none⟩ (.slice (some ⟨g1, 0, none⟩) (t + 1) cap1)) c4 n4 k4 b4 o4 m4.cells := IntsAt.set uA (fun hh => by dsimp only; have := q4 hh; omega) _
      have d0 := hSG.cell 0
      have d1 := hSG.cell 1
      have fz := hSG.thawed 0
      have s1 := hS9.cell 1
      have e0 := hG9.cell 0
      have e1 := hG9.cell 1
      have e2 := hG9.cell 2
      have e3 := hG9.cell 3
      have e4 := hG9.cell 4
      have e5 := hG9.cell 5
      clear hTW hSG hGG hNG hRG hbG u9 uA
      go_wp2_with (at_builtin; refine wpList_push rfl (.tmp 137) (.tmp 139) 59 rfl Form.grd (w.heap.size + 1 + 1 + 1) E' 102 i1 (.agg #[.int .i64 0, .int .i64 0, .slice none 0 0, .int .i64 0, .int .i64 0, .slice none 0 0]) 80 Tryd.underlying59 hi' hz0' hz1' hz2' rfl (by decide) vV V rfl ?c1 wG.heap.size 1 [.int .i64 m3.rows, .int .i64 m3.cols, .slice c3 n3 k3, .int .i64 m4.rows, .int .i64 m4.cols, .slice c4 n4 k4] 102 ⟨m3, m4⟩ rfl ?c2 ?c3 ?c4 ?c5 ?c6 _ rfl ?_)
      case c1 => exact OwnRow.keep hT9.own2 (by repeat (first | fail | (with_reducible exact Below.refl _ _) | (with_reducible refine Below.al ?_ _) | (with_reducible refine Below.drN ?_ _) | (with_reducible refine Below.drew ?_) | (with_reducible refine Below.st ?_ ?_ _; rotate_left 1; (first | (dsimp only; omega) | omega | (simp; omega) | simp)) | exact Below.refl _ _))
      case c2 => exact (by repeat (first | fail | (with_reducible refine (Box.new' _ wG.heap.size _ _ ?_); (simp; done)) | (with_reducible refine Box.alloc ?_ _) | (with_reducible refine Box.drewN ?_ _) | (with_reducible refine Box.drew ?_) | (with_reducible refine Box.far ?_ ?_ _; rotate_left 1; (first | (dsimp only; omega) | omega | (simp; omega) | simp))))
      case c3 => exact reads_grd (d := ⟨m3, m4⟩) (F := fun b => E' b ∧ vV.ownBlock ≠ some b) (b := b3) (b' := b4) (o := o3) (o' := o4) r3 (by repeat (first | fail | (with_reducible exact i9) | (with_reducible refine IntsAt.alloc ?_ _) | (with_reducible refine IntsAt.drewN ?_ _) | (with_reducible refine IntsAt.drew ?_) | (with_reducible refine IntsAt.set ?_ ?_ _; rotate_left 1; (intro h0; first | (dsimp only; omega) | omega | (simp; omega) | simp)) | exact i9)) r4 (by repeat (first | fail | (with_reducible exact iA) | (with_reducible refine IntsAt.alloc ?_ _) | (with_reducible refine IntsAt.drewN ?_ _) | (with_reducible refine IntsAt.drew ?_) | (with_reducible refine IntsAt.set ?_ ?_ _; rotate_left 1; (intro h0; first | (dsimp only; omega) | omega | (simp; omega) | simp)) | exact iA))
      case c4 => exact HVM.out
      case c5 => exact HVM'.out
      case c6 => simp; omega
      intro g2 cap2 wJ hown2 hgrow2 hlies2 hlt2
      have hTX := (hT9.keep (w' := (wG.setCell ⟨w.heap.size + 1, 0, none⟩ (.slice (some ⟨g1, 0, none⟩) (t + 1) cap1)).alloc (.cells #[.int .i64 m3.rows, .int .i64 m3.cols, .slice c3 n3 k3, .int .i64 m4.rows, .int .i64 m4.cols, .slice c4 n4 k4] 102)) (by repeat (first | fail | (with_reducible exact Below.refl _ _) | (with_reducible refine Below.al ?_ _) | (with_reducible refine Below.drN ?_ _) | (with_reducible refine Below.drew ?_) | (with_reducible refine Below.st ?_ ?_ _; rotate_left 1; (first | (dsimp only; omega) | omega | (simp; omega) | simp)) | exact Below.refl _ _))).second (by decide) hown2 hgrow2 (hlies2.imp_right (fun e => by rw [e]; simp))
      have HOX : Hid (∀ k, wr.heap.size ≤ k ∨ k < w.heap.size + 1 + 1 + 1 → some k ≠ vV.ownBlock) := Lib.hid (fun k hk e => by have := HOV.out k e.symm; omega)
      have hSX := Box.grown (hS9.alloc (.cells #[.int .i64 m3.rows, .int .i64 m3.cols, .slice c3 n3 k3, .int .i64 m4.rows, .int .i64 m4.cols, .slice c4 n4 k4] 102)) hgrow2 (HOX.out _ (by omega))
      have hNX := Box.grown (hN9.alloc (.cells #[.int .i64 m3.rows, .int .i64 m3.cols, .slice c3 n3 k3, .int .i64 m4.rows, .int .i64 m4.cols, .slice c4 n4 k4] 102)) hgrow2 (HOX.out _ (by omega))
      have hRX := Box.grown (hR9.alloc (.cells #[.int .i64 m3.rows, .int .i64 m3.cols, .slice c3 n3 k3, .int .i64 m4.rows, .int .i64 m4.cols, .slice c4 n4 k4] 102)) hgrow2 (HOX.out _ (by omega))
      have hbX : Below w.heap.size w wJ := Below.grown (show Below w.heap.size w _ from (by repeat (first | fail | (with_reducible exact Below.refl _ _) | (with_reducible exact hb9) | (with_reducible refine Below.al ?_ _) | (with_reducible refine Below.drN ?_ _) | (with_reducible refine Below.drew ?_) | (with_reducible refine Below.st ?_ ?_ _; rotate_left 1; (first | (dsimp only; omega) | omega | (simp; omega) | simp)) | exact Below.refl _ _ | exact hb9))) hgrow2 (by have := hb9.size; simp at this; simp; omega) (fun q hq => by have := (HOV.out q hq).1; omega)
      have hsX : w.heap.size + 1 + 1 + 1 ≤ wJ.heap.size := by have h := hgrow2.size; simp at h; omega
      have s0 := hSX.cell 0
      have s1 := hSX.cell 1
      have fz := hSX.thawed 1
      have hSF : Box (wJ.setCell ⟨w.heap.size + 1, 1, none⟩ (.slice (some ⟨g2, 0, none⟩) (t + 1) cap2)) (w.heap.size + 1) [(.slice (some ⟨g1, 0, none⟩) (t + 1) cap1), (.slice (some ⟨g2, 0, none⟩) (t + 1) cap2), .int .i64 (steps : Int)] 61 := hSX.set 1 _
      have hNF := hNX.far (a := ⟨w.heap.size + 1, 1, none⟩) (by dsimp only; omega) (.slice (some ⟨g2, 0, none⟩) (t + 1) cap2)
      have hRF := hRX.far (a := ⟨w.heap.size + 1, 1, none⟩) (by dsimp only; omega) (.slice (some ⟨g2, 0, none⟩) (t + 1) cap2)
      have hTF := hTX.set (a := ⟨w.heap.size + 1, 1, none⟩) (by dsimp only; omega) (.slice (some ⟨g2, 0, none⟩) (t + 1) cap2)
      have hbF : Below w.heap.size w (wJ.setCell ⟨w.heap.size + 1, 1, none⟩ (.slice (some ⟨g2, 0, none⟩) (t + 1) cap2)) := hbX.setCell (by dsimp only; omega) _
      have hsF : w.heap.size + 1 + 1 + 1 ≤ (wJ.setCell ⟨w.heap.size + 1, 1, none⟩ (.slice (some ⟨g2, 0, none⟩) (t + 1) cap2)).heap.size := by simpa [World.setCell] using hsX
      have HALL := Lib.hid (And.intro hSF (And.intro hTF (And.intro hNF (And.intro hRF (And.intro hbF hsF)))))
      have HEL := Lib.hid (HNEXT.out _ _ _ HP.out)
      clear hSF hTF hNF hRF hbF hsF hTX hSX hNX hRX hbX hsX hown2 hgrow2 hlies2 hlt2 hT9 hS9 hG9 hN9 hR9 hb9 i9 iA HO9 HOX HLs r3 r4 q1 q2 q3 q4 d0 d1 e0 e1 e2 e3 e4 e5
      go_wp2
      go_roundw
      case rel => exact ⟨t + 1, a4, _, _, N ++ [⟨kd, m1, m2⟩], V ++ [⟨m3, m4⟩], E', by omega, by go_num, rfl, hat4, by rw [List.length_append, hNl]; rfl, by rw [List.length_append, hVl]; rfl, HALL.out.1, HALL.out.2.1, HALL.out.2.2.1, HALL.out.2.2.2.1, HALL.out.2.2.2.2.1, HALL.out.2.2.2.2.2, HEL⟩
      case measure => simp [intOf]; omega
    · obtain rfl : n = t := by omega
      have g1 : ((n : Int) < (n : Int)) = False := eq_false (by omega)
      obtain ⟨av, cv, bv, hv, _, hrw⟩ := hT.own1.row (G := fun c => w.heap.size < c) (fun c hc _ => by have := (hT.ext c hc).2.1; omega) (fun c hc => by omega)
      obtain ⟨au, cu, bu, hv', _, hru⟩ := hT.own2.row (G := fun c => w.heap.size < c) (fun c hc _ => by have := (hT.ext c hc).2.1; omega) (fun c hc => by omega)
      rw [hNl] at hv hrw
      rw [hVl] at hv' hru
      subst hv hv'
      obtain ⟨FA, hFA⟩ : ∃ FA, (Sta.mk N V steps).fault = FA := ⟨_, rfl⟩
      have HBODY : Hid (staRd bs = if atq ≠ m ∨ FA ≠ 0 then none else some ⟨N, V, steps⟩) := Lib.hid (by rw [HBD.out, HLs.out]; dsimp only; rw [hFA])
      have hck : Calls Tryd.prog 25 #[.agg #[.slice av n cv, .slice au n cu, .int .i64 (steps : Int)]] wr fun e w' => e = .returned (.int .i64 FA) ∧ Below wr.heap.size wr w' := by
        rw [← hFA]
        exact refStateFault_any ⟨N, V, steps⟩ _ _ _ _ _ _ _ _ _ _ _ _ wr hrw hru
      have k0 := hSr.cell 0
      have k1 := hSr.cell 1
      have k2 := hSr.cell 2
      clear hT hFA HLs HBD
      go_wp2_with fail
      refine hck.mono ?_
      rintro e wc ⟨rfl, hbc⟩
      have hbw : Below w.heap.size w wc := hbr.trans (hbc.mono hbr.size)
      have hRc := hRr.keep hbc
      have hNc := hNr.keep hbc
      have hSc := hSr.keep hbc
      clear hck k0 k1 k2 hSr hNr hRr g1
      by_cases hat : atq = m
      case neg =>
        have e1 : ((atq : Int) != (m : Int)) = true := by rw [bne_iff_ne]; omega
        have HNO : Hid (staRd bs = none) := Lib.hid (by rw [HBODY.out, if_pos (Or.inl hat)])
        clear hat
        -- the way out where there is no state: the world wc, the empty one's box hNc, the result's hRc, Below hbw
        have hbx := ((Box.set (hRc) 0 (.slice none 0 0)).set 1 (.slice none 0 0)).set 2 (.int .i64 0)
        have bz0 := hbx.cell 0
        have bz1 := hbx.cell 1
        have bz2 := hbx.cell 2
        have bn0 := Box.cell (hNc) 0
        have bn1 := Box.cell (hNc) 1
        have bn2 := Box.cell (hNc) 2
        have bk0 := Box.cell (hRc) 0
        have bk1 := Box.cell (hRc) 1
        have bk2 := Box.cell (hRc) 2
        have bt0 := Box.thawed (hRc) 0
        have bt1 := Box.thawed (hRc) 1
        have bt2 := Box.thawed (hRc) 2
        have HBZ : Hid (Below w.heap.size w ((((wc).setCell ⟨w.heap.size, 0, none⟩ (.slice none 0 0)).setCell ⟨w.heap.size, 1, none⟩ (.slice none 0 0)).setCell ⟨w.heap.size, 2, none⟩ (.int .i64 0))) := Lib.hid ((((hbw).setCell (Nat.le_refl _) _).setCell (Nat.le_refl _) _).setCell (Nat.le_refl _) _)
        clear hbx
        go_wp2
        refine bodyPost_ret (v := .tuple #[.agg #[.slice none 0 0, .slice none 0 0, .int .i64 0], .bool false]) (by simp [results, Tryd.results28, go_sem, bz0, bz1, bz2]) rfl ⟨?_, Or.inl ⟨HNO.out, rfl⟩⟩
        exact HBZ.out
      have e1 : ((atq : Int) != (m : Int)) = false := by rw [bne_eq_false_iff_eq]; omega
      by_cases hz : FA = 0
      case neg =>
        have e2 : (FA != 0) = true := by rw [bne_iff_ne]; exact hz
        have HNO : Hid (staRd bs = none) := Lib.hid (by rw [HBODY.out, if_pos (Or.inr hz)])
        clear hat hz
        -- the way out where there is no state: the world wc, the empty one's box hNc, the result's hRc, Below hbw
        have hbx := ((Box.set (hRc) 0 (.slice none 0 0)).set 1 (.slice none 0 0)).set 2 (.int .i64 0)
        have bz0 := hbx.cell 0
        have bz1 := hbx.cell 1
        have bz2 := hbx.cell 2
        have bn0 := Box.cell (hNc) 0
        have bn1 := Box.cell (hNc) 1
        have bn2 := Box.cell (hNc) 2
        have bk0 := Box.cell (hRc) 0
        have bk1 := Box.cell (hRc) 1
        have bk2 := Box.cell (hRc) 2
        have bt0 := Box.thawed (hRc) 0
        have bt1 := Box.thawed (hRc) 1
        have bt2 := Box.thawed (hRc) 2
        have HBZ : Hid (Below w.heap.size w ((((wc).setCell ⟨w.heap.size, 0, none⟩ (.slice none 0 0)).setCell ⟨w.heap.size, 1, none⟩ (.slice none 0 0)).setCell ⟨w.heap.size, 2, none⟩ (.int .i64 0))) := Lib.hid ((((hbw).setCell (Nat.le_refl _) _).setCell (Nat.le_refl _) _).setCell (Nat.le_refl _) _)
        clear hbx
        go_wp2
        refine bodyPost_ret (v := .tuple #[.agg #[.slice none 0 0, .slice none 0 0, .int .i64 0], .bool false]) (by simp [results, Tryd.results28, go_sem, bz0, bz1, bz2]) rfl ⟨?_, Or.inl ⟨HNO.out, rfl⟩⟩
        exact HBZ.out
      have e2 : (FA != 0) = false := by rw [bne_eq_false_iff_eq]; exact hz
      have HYES : Hid (staRd bs = some ⟨N, V, steps⟩) := Lib.hid (by rw [HBODY.out, if_neg (by rintro (h1 | h1); exact h1 hat; exact h1 hz)])
      have c0 := hSc.cell 0
      have c1 := hSc.cell 1
      have c2 := hSc.cell 2
      have b0 := hRc.cell 0
      have b1 := hRc.cell 1
      have b2 := hRc.cell 2
      have t0 := hRc.thawed 0
      have t1 := hRc.thawed 1
      have t2 := hRc.thawed 2
      have bz := ((hRc.set 0 (.slice av n cv)).set 1 (.slice au n cu)).set 2 (.int .i64 (steps : Int))
      have z0 := bz.cell 0
      have z1 := bz.cell 1
      have z2 := bz.cell 2
      have hfz : Far (fun y => y = w.heap.size) wr (((wc.setCell ⟨w.heap.size, 0, none⟩ (.slice av n cv)).setCell ⟨w.heap.size, 1, none⟩ (.slice au n cu)).setCell ⟨w.heap.size, 2, none⟩ (.int .i64 (steps : Int))) := by
        have f0 : Far (fun y => y = w.heap.size) wr wc := Far.of_below hbc
        have f1 := f0.st (a := ⟨w.heap.size, 0, none⟩) (fun _ => rfl) (.slice av n cv)
        have f2 := f1.st (a := ⟨w.heap.size, 1, none⟩) (fun _ => rfl) (.slice au n cu)
        exact f2.st (a := ⟨w.heap.size, 2, none⟩) (fun _ => rfl) (.int .i64 (steps : Int))
      have hR0 := (hrw.farS hfz (fun c hc _ hh => by have h1 : c = w.heap.size := hh; have h2 : w.heap.size < c := hc; omega)).wide (G := anyB) (fun _ _ _ => trivial)
      have hR1 := (hru.farS hfz (fun c hc _ hh => by have h1 : c = w.heap.size := hh; have h2 : w.heap.size < c := hc; omega)).wide (G := anyB) (fun _ _ _ => trivial)
      have hbz : Below w.heap.size w (((wc.setCell ⟨w.heap.size, 0, none⟩ (.slice av n cv)).setCell ⟨w.heap.size, 1, none⟩ (.slice au n cu)).setCell ⟨w.heap.size, 2, none⟩ (.int .i64 (steps : Int))) := ((hbw.setCell (Nat.le_refl _) _).setCell (Nat.le_refl _) _).setCell (Nat.le_refl _) _
      have HALL := Lib.hid (And.intro hR0 (And.intro hR1 hbz))
      clear hR0 hR1 hbz hfz bz hat hz
      go_wp2
      refine bodyPost_ret (v := .tuple #[.agg #[.slice av n cv, .slice au n cu, .int .i64 (steps : Int)], .bool true]) (by simp [results, Tryd.results28, go_sem, z0, z1, z2]) rfl ⟨HALL.out.2.2, Or.inr ⟨_, _, HYES.out, rfl, ⟨_, _, _, _, _, _, _, _, _, _, rfl, HALL.out.1, HALL.out.2.1⟩⟩⟩
end Go.Proofs.YtgknjikjjklaiaaDoor
