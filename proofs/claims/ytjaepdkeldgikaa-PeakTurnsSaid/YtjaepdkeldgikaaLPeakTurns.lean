/- PeakTurns: a wave keeps all parts; turns keep as many as there are stages from one on, or all parts, if they are fewer: the law returns true, and nothing that was there has changed. No condition. -/
import Derived.Test.YtjaepdkeldgikaaRows
import Derived.Test.YtjaepdkeldgikaaPeak1
import Derived.Test.YtjaepdkeldgikaaOpen
set_option linter.unusedVariables false
set_option linter.unusedSimpArgs false
set_option linter.unusedSectionVars false
set_option maxRecDepth 100000
namespace Gal
theorem waves_peak : ∀ S : Fin 6, ∀ M : Fin 12, peaksOf (fun _ => 1) (waveOf (S.val + 1) (M.val + 1)) = (List.range (S.val + 1)).map fun _ => ((M.val + 1 : Nat) : Int) := by decide +kernel
theorem turns_peak : ∀ S : Fin 6, ∀ M : Fin 12, peaksOf (fun _ => 1) (turnsOf (S.val + 1) (M.val + 1)) = (List.range (S.val + 1)).map fun s => ((min (S.val + 1 - s) (M.val + 1) : Nat) : Int) := by decide +kernel
theorem wave_peak {S M s : Nat} (hS : 1 ≤ S ∧ S ≤ 6) (hM : 1 ≤ M ∧ M ≤ 12) (hs : s < S) : ix (peaksOf (fun _ => 1) (waveOf S M)) s = M := by
  have h1 := waves_peak ⟨S - 1, by omega⟩ ⟨M - 1, by omega⟩
  simp only [show S - 1 + 1 = S by omega, show M - 1 + 1 = M by omega] at h1
  rw [h1]
  simp [ix, hs]
theorem turn_peak {S M s : Nat} (hS : 1 ≤ S ∧ S ≤ 6) (hM : 1 ≤ M ∧ M ≤ 12) (hs : s < S) : ix (peaksOf (fun _ => 1) (turnsOf S M)) s = ((min (S - s) M : Nat) : Int) := by
  have h1 := turns_peak ⟨S - 1, by omega⟩ ⟨M - 1, by omega⟩
  simp only [show S - 1 + 1 = S by omega, show M - 1 + 1 = M by omega] at h1
  rw [h1]
  simp [ix, hs]
end Gal
namespace Go.Proofs.Ytjaepdkeldgikaa.lawPeakTurns
open Go.ChangeShapes Go.WideShapes Go.ChangeAt Go.RowKit Gal
set_option maxHeartbeats 4000000
theorem walk (S M : Int) (w : World) (hS : (Lit.int IntKind.i64 S).wf = true) (hM : (Lit.int IntKind.i64 M).wf = true) : Calls Try.prog 6 #[.int .i64 S, .int .i64 M] w fun e w' => e = .returned (.bool true) ∧ Below w.heap.size w w' := by
  clear hS hM
  by_cases hf : (1 ≤ S ∧ S ≤ 6) ∧ 1 ≤ M ∧ M ≤ 12
  · obtain ⟨s, rfl⟩ : ∃ s : Nat, S = s := ⟨S.toNat, by omega⟩
    obtain ⟨m, rfl⟩ : ∃ m : Nat, M = m := ⟨M.toNat, by omega⟩
    have hs : 1 ≤ s ∧ s ≤ 6 := by omega
    have hm : 1 ≤ m ∧ m ≤ 12 := by omega
    clear hf
    go_enter Try.func6, Try.ntmps6
    go_wp2_with fail
    refine (planFact_any w).mono ?_
    rintro e w1 ⟨rfl, hb1⟩
    go_wp2_with fail
    refine (planWave_ok s m _ hs hm).mono ?_
    rintro e w2 ⟨v, rfl, hp, hb2⟩
    obtain ⟨a, k, b, rfl, _, hr⟩ := planNew_row hp
    clear hp
    go_wp2_with fail
    refine (planTurns_ok s m _ hs hm).mono ?_
    rintro e w3 ⟨v, rfl, hp, hb3⟩
    obtain ⟨a', k', b', rfl, _, hr'⟩ := planNew_row hp
    replace hr := hr.keep hb3
    clear hp
    go_wp2_with fail
    refine (peaks_ok _ m _ _ _ _ _ _ _ hr (wave_ok hs hm)).mono ?_
    rintro e w4 ⟨a1, k1, b1, rfl, _, hi1, hb4⟩
    replace hr' := hr'.keep hb4
    go_wp2_with fail
    refine (peaks_ok _ m _ _ _ _ _ _ _ hr' (turns_ok hs hm)).mono ?_
    rintro e w5 ⟨a2, k2, b2, rfl, _, hi2, hb5⟩
    replace hi1 := hi1.keep hb5
    obtain rfl := hi1.ptr hs.1
    obtain rfl := hi2.ptr hs.1
    have hss : ((s : Int) != (s : Int)) = false := by simp
    have hbz : Below w.heap.size w w5 := (by repeat (first | fail | (with_reducible exact Below.refl _ _) | (with_reducible refine Below.al ?_ _) | (with_reducible refine Below.drN ?_ _) | (with_reducible refine Below.drew ?_) | (with_reducible refine Below.st ?_ ?_ _; rotate_left 1; (first | (dsimp only; omega) | omega | (simp; omega) | simp)) | (with_reducible refine Below.go ?_ hb5) | (with_reducible refine Below.go ?_ hb4) | (with_reducible refine Below.go ?_ hb3) | (with_reducible refine Below.go ?_ hb2) | (with_reducible refine Below.go ?_ hb1) | exact Below.refl _ _))
    clear hr hr' hb1 hb2 hb3 hb4 hb5
    go_wp2
    go_loopw [12] (fun i wr => ∃ (t nq : Nat), t ≤ s ∧ i = .int .i64 t ∧ wr = w5.drewN nq) (fun i _ => s - (intOf i).toNat)
    case atStart => exact ⟨0, 0, Nat.zero_le _, rfl, rfl⟩
    case round =>
      obtain ⟨t, nq, ht, rfl, rfl⟩ := hrel
      by_cases hlt : t < s
      · have c0 := hi1.cell t hlt
        have c1 := hi2.cell t hlt
        rw [wave_peak hs hm hlt] at c0
        rw [turn_peak hs hm hlt] at c1
        rw [Nat.zero_add] at c0 c1
        have h0 : (0 : Int) ≤ (t : Int) := by omega
        have h1 : (t : Int) < (s : Int) := by omega
        have e1 : ((m : Int) != (m : Int)) = false := by simp
        by_cases hgt : m < s - t
        · rw [show min (s - t) m = m by omega] at c1
          have e2 : (s : Int) - (t : Int) > (m : Int) := by omega
          clear hgt
          go_wp2
          go_roundw
          case rel => exact ⟨t + 1, _, by omega, by go_num, (by first | rfl | exact World.drewN_drewN _ _ _)⟩
          case measure => simp [intOf]; omega
        · rw [show min (s - t) m = s - t by omega] at c1
          have e2 : ((s : Int) - (t : Int) > (m : Int)) = False := by simp; omega
          have e3 : (((s - t : Nat) : Int) != (s : Int) - (t : Int)) = false := by rw [show ((s - t : Nat) : Int) = (s : Int) - (t : Int) by omega]; simp
          rw [show ((s - t : Nat) : Int) = (s : Int) - (t : Int) by omega] at c1
          clear hgt
          go_wp2
          go_roundw
          case rel => exact ⟨t + 1, _, by omega, by go_num, (by first | rfl | exact World.drewN_drewN _ _ _)⟩
          case measure => simp [intOf]; omega
      · obtain rfl : s = t := by omega
        go_wp2
        go_ret
        exact ⟨rfl, (by repeat (first | fail | (with_reducible exact Below.refl _ _) | (with_reducible exact hbz) | (with_reducible refine Below.al ?_ _) | (with_reducible refine Below.drN ?_ _) | (with_reducible refine Below.drew ?_) | (with_reducible refine Below.st ?_ ?_ _; rotate_left 1; (first | (dsimp only; omega) | omega | (simp; omega) | simp)) | exact Below.refl _ _ | exact hbz))⟩
  · have HF := Lib.hid hf
    clear hf
    go_enter Try.func6, Try.ntmps6
    go_wp2_with fail
    refine (planFact_any w).mono ?_
    rintro e w1 ⟨rfl, hb1⟩
    go_wp2_with fail
    refine (planWave_bad S M _ HF.out).mono ?_
    rintro e w2 ⟨rfl, hb2⟩
    rw [errV_err (by decide)]
    go_wp2
    go_ret
    exact ⟨rfl, (by repeat (first | fail | (with_reducible exact Below.refl _ _) | (with_reducible refine Below.al ?_ _) | (with_reducible refine Below.drN ?_ _) | (with_reducible refine Below.drew ?_) | (with_reducible refine Below.st ?_ ?_ _; rotate_left 1; (first | (dsimp only; omega) | omega | (simp; omega) | simp)) | (with_reducible refine Below.go ?_ hb2) | (with_reducible refine Below.go ?_ hb1) | exact Below.refl _ _))⟩

theorem own : ownKnob Try.prog.godebug = none := by kernel_rfl
theorem laidOut : laidOutB Try.prog = true := by kernel_rfl
set_option maxRecDepth 100000 in
theorem lifted (os : Os) (started : os.Started) (H : Type) (enc : TypeId × Value → H) :
    ReturnsInHanded {} Try.checked os 6 .any (Rows.peakTurnsSpec.pre6 enc Try.prog Try.f6 Rows.peakTurnsRow.domain false) (Rows.peakTurnsSpec.post enc Try.prog Try.f6 false true false false) := by
  refine returnsInHanded_of_change (C := Try.checked) own started (by kernel_rfl) Try.func6
    (ChangeSpec.witness6 (enc := enc) (C := Try.checked) false ⟨#[], #[.int .i64 0, .int .i64 0], []⟩ 8 (by kernel_rfl) (by kernel_rfl) (by kernel_rfl) (by kernel_rfl)) ?_
  intro W base args ds gs before hval0 hW hcnd hsz
  have hval : ∀ (j : Nat) t v, Try.f6.params[j]? = some t → args[j]? = some v → Value.okWide Try.prog W .any base t v := hval0
  have hW' := hW
  obtain ⟨p, q, hA0, hV, rfl, hfz, hnd⟩ := hW
  have hA : DataW.TrodAll enc Try.prog W 0 (fun _ => true) true Try.f6.params.toList args.toList ds p := hA0
  rw [Try.params6] at hA hval
  obtain ⟨v0, vs0, d0, ds0, p0, q0, hargs, rfl, rfl, h0, r0⟩ := trodAll_cons hA
  obtain ⟨v1, vs1, d1, ds1, p1, q1, rfl, rfl, rfl, h1, r1⟩ := trodAll_cons r0
  obtain ⟨rfl, rfl, rfl⟩ := trodAll_nil r1
  obtain rfl : args = #[v0, v1] := by cases args; simp_all
  obtain ⟨rfl, rfl⟩ := trodVars_none hV
  have k0 := h0
  have lt0 : ∀ x ∈ p0, x.block < W.heap.size := by obtain ⟨m, hm⟩ := k0; exact DataW.trod_lt m _ _ _ hm
  have k1 := h1
  have lt1 : ∀ x ∈ p1, x.block < W.heap.size := by obtain ⟨m, hm⟩ := k1; exact DataW.trod_lt m _ _ _ hm
  obtain ⟨a0, rfl, rfl, rfl, w0⟩ := open_int Try.underlying3 (hval 0 3 v0 rfl rfl) h0
  obtain ⟨a1, rfl, rfl, rfl, w1⟩ := open_int Try.underlying3 (hval 1 3 v1 rfl rfl) h1
  clear hA0 hval0
  refine (walk a0 a1 W w0 w1).mono fun e W' ⟨he, bel⟩ => ?_
  subst he
  exact ⟨_, rfl, _, _, _, [], _, [], hW', trodAll_mk1 (shut_bool Try.underlying4 _), (trodAll_cons_mk (Below.trod laidOut (by kernel_rfl) (of_decide_eq_true (by kernel_rfl)) k0 bel lt0) (trodAll_cons_mk (Below.trod laidOut (by kernel_rfl) (of_decide_eq_true (by kernel_rfl)) k1 bel lt1) trodAll_mk0)), rfl, bel.frame _, fun h => by cases h⟩

theorem proved : Rows.PeakTurnsSaid :=
  OpenClaim.holds_of_wide 6 Try.f6 rfl rfl rfl rfl rfl rfl rfl ⟨rfl, rfl, rfl, rfl, rfl⟩ rfl rfl rfl rfl rfl (by kernel_rfl) Try.func6 (by kernel_rfl)
    (of_decide_eq_true (by kernel_rfl)) (by unfold Func.isWrapper; first | (rw [if_pos (by decide +kernel)]; kernel_rfl) | (rw [if_neg (by decide +kernel)]; exact ⟨rfl, rfl⟩))
    (fun os started H enc _ => lifted os started H enc)
#print axioms proved

end Go.Proofs.Ytjaepdkeldgikaa.lawPeakTurns
