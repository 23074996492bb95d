/- Contracts of the reference: forwards, PlanOf, Plans. -/
import Derived.Test.YtjaepdkeldgikaaDoorPlan6
import Derived.Test.YtjaepdkeldgikaaDoorSameI
import Derived.BigQuiet
set_option linter.unusedVariables false
set_option linter.unusedSimpArgs false
set_option linter.unusedSectionVars false
set_option maxRecDepth 100000
namespace Gal
open Go
def refTo (g M : Nat) : Nat → List ActD
  | 0 => fwdL 0 g
  | m + 1 => refTo g M m ++ ((if g + m < M then [((1 : Int), ((g + m : Nat) : Int))] else []) ++ [(2, (m : Int))])
theorem refTo_all : ∀ f : Fin 13, ∀ M : Fin 12, refTo (min f.val (M.val + 1)) (M.val + 1) (M.val + 1) = stageTo f.val (M.val + 1) (M.val + 1) := by decide +kernel
theorem refTo_is {f M : Nat} (hf : f ≤ 12) (hM : 1 ≤ M ∧ M ≤ 12) : refTo (min f M) M M = stageTo f M M := by
  have h1 := refTo_all ⟨f, by omega⟩ ⟨M - 1, by omega⟩
  simp only [show M - 1 + 1 = M by omega] at h1
  exact h1
theorem refTo_length {g M : Nat} (hg : g ≤ 12) : ∀ m, (refTo g M m).length ≤ 12 + 2 * m
  | 0 => by simp [refTo, fwdL]; omega
  | m + 1 => by
    have := refTo_length (M := M) hg m
    rw [refTo, List.length_append, List.length_append]
    split <;> simp <;> omega
end Gal
namespace Go.Proofs.YtjaepdkeldgikaaDoor
open Go.RowKit Gal Go.Maps
set_option maxHeartbeats 4000000
theorem refForwards_ok (A B : Nat) (w : World) (hAB : A ≤ B) (hB : B ≤ 12) : Calls Tryd.prog 36 #[.int .i64 A, .int .i64 B] w fun e w' => ∃ v, e = .returned v ∧ OwnRow Form.act 73 w' w.heap.size noB v (fwdL A B) ∧ Below w.heap.size w w' := by
  obtain ⟨i0, hi, hz0, hz1, hz2⟩ := info_parts info_act
  go_enter Tryd.func36, Tryd.ntmps36
  go_wp2
  go_loopw [5, 6] (fun v i wr => ∃ (c : Nat) (v0 : Value), v0 = v ∧ A ≤ c ∧ c ≤ B ∧ i = .int .i64 c ∧ OwnRow Form.act 73 wr w.heap.size noB v0 (fwdL A c) ∧ Below w.heap.size w wr) (fun _ i _ => B - (intOf i).toNat)
  case atStart => exact ⟨A, _, rfl, Nat.le_refl _, hAB, rfl, by rw [fwdL_nil]; exact OwnRow.nil _ _ _ _ _, (by repeat (first | fail | (with_reducible exact Below.refl _ _) | (with_reducible refine Below.al ?_ _) | (with_reducible refine Below.drN ?_ _) | (with_reducible refine Below.drew ?_) | (with_reducible refine Below.st ?_ ?_ _; rotate_left 1; (first | (dsimp only; omega) | omega | (simp; omega) | simp)) | exact Below.refl _ _))⟩
  case round =>
    obtain ⟨c, v, rfl, hc0, hc1, rfl, hown, hbr⟩ := hrel
    by_cases hlt : c < B
    · have HXN : Hid (fwdL A (c + 1) = fwdL A c ++ [(1, (c : Int))]) := Lib.hid (fwdL_snoc hc0)
      have hlen : (fwdL A c).length ≤ 12 := by simp [fwdL]; omega
      obtain ⟨xs, hxs⟩ : ∃ xs, fwdL A c = xs := ⟨_, rfl⟩
      rw [hxs] at hown hlen HXN
      clear hxs
      go_wp2_with (at_builtin; (refine wpList_push rfl (.tmp 13) (.tmp 16) 43 rfl Form.act w.heap.size noB 73 i0 (.agg #[.int .i64 0, .int .i64 0]) 16 Tryd.underlying43 hi hz0 hz1 hz2 rfl (by decide) _ _ rfl (hown.keep ((Below.refl _ _).alloc (Nat.le_refl _) _)) wr.heap.size 1 [.int .i64 1, .int .i64 (c : Int)] 73 (1, (c : Int)) rfl (Box.new _ _ _) (act_reads' _ _) (by omega) (by unfold maxLen; omega) (by have := hbr.size; simp; omega) _ rfl ?_))
      intro g cap w' hown' hgrow hlies hgs
      have hbn : Below w.heap.size w w' := Below.grown (Below.al hbr _) hgrow (by have := hbr.size; simp; omega) (fun k hk => (hown.base_le k hk).1)
      have HOWN := Lib.hid hown'
      clear hown' hgrow hlies hgs
      go_wp2
      go_roundw
      case rel => exact ⟨c + 1, _, rfl, by omega, hlt, by go_num, by rw [HXN.out]; exact HOWN.out, hbn⟩
      case measure => simp [intOf]; omega
    · obtain rfl : B = c := by omega
      go_wp2
      go_ret
      exact ⟨v, rfl, hown, hbr⟩
theorem refPlanOf_ok (S M : Nat) (wv : Bool) (w : World) (hS : 1 ≤ S ∧ S ≤ 6) (hM : 1 ≤ M ∧ M ≤ 12) :
    Calls Tryd.prog 9 #[.int .i64 S, .int .i64 M, .bool wv] w fun e w' => ∃ a k b, e = .returned (.tuple #[.slice a S k, .int .i64 0]) ∧ RowAt Form.plan w' anyB a S k b 0 (if wv then waveOf S M else turnsOf S M) ∧ Below w.heap.size w w' := by
  obtain ⟨i0, hi, hz0, hz1, hz2⟩ := info_parts info_act
  obtain ⟨j0, hj, hy0, hy1, hy2⟩ := info_parts info_acts
  obtain ⟨S1, S2⟩ := hS
  obtain ⟨M1, M2⟩ := hM
  obtain ⟨P, hP⟩ : ∃ P, (if wv then waveOf S M else turnsOf S M) = P := ⟨_, rfl⟩
  rw [hP]
  have HPL : Hid (P.length = S ∧ ∀ t, t < S → P.take (t + 1) = P.take t ++ [refTo (if wv then M else min (S - 1 - t) M) M M]) := Lib.hid (by
    rw [← hP]
    cases wv with
    | true =>
      refine ⟨aheadOf_length _ _ _, fun t ht => ?_⟩
      simp only [if_true]
      unfold waveOf
      rw [List.take_succ_eq_append_getElem (by rw [aheadOf_length]; exact ht)]
      have := refTo_is (f := M) M2 ⟨M1, M2⟩
      rw [Nat.min_self] at this
      simp [aheadOf, this]
    | false =>
      refine ⟨aheadOf_length _ _ _, fun t ht => ?_⟩
      simp only [Bool.false_eq_true, if_false]
      unfold turnsOf
      rw [List.take_succ_eq_append_getElem (by rw [aheadOf_length]; exact ht), refTo_is (f := S - 1 - t) (by omega) ⟨M1, M2⟩]
      simp [aheadOf])
  have g1 : ((S : Int) < 1) = False := by simp; omega
  have g2 : ((S : Int) > 6) = False := by simp; omega
  have g3 : ((M : Int) < 1) = False := by simp; omega
  have g4 : ((M : Int) > 12) = False := by simp; omega
  clear hP
  go_enter Tryd.func9, Tryd.ntmps9
  go_wp2
  go_loopw [8, 9] (fun v i wr => ∃ (t : Nat) (v0 : Value), v0 = v ∧ t ≤ S ∧ i = .int .i64 t ∧ OwnRow Form.plan 43 wr w.heap.size (newB w.heap.size) v0 (P.take t) ∧ Below w.heap.size w wr) (fun _ i _ => S - (intOf i).toNat)
  case atStart => exact ⟨0, _, rfl, Nat.zero_le _, rfl, OwnRow.nil _ _ _ _ _, (by repeat (first | fail | (with_reducible exact Below.refl _ _) | (with_reducible refine Below.al ?_ _) | (with_reducible refine Below.drN ?_ _) | (with_reducible refine Below.drew ?_) | (with_reducible refine Below.st ?_ ?_ _; rotate_left 1; (first | (dsimp only; omega) | omega | (simp; omega) | simp)) | exact Below.refl _ _))⟩
  case round =>
    obtain ⟨t, vo, rfl, ht, rfl, hout, hbr⟩ := hrel
    by_cases hlt2 : t < S
    · obtain ⟨ws, rfl⟩ : ∃ ws : World, ws = wr := ⟨_, rfl⟩
      have hfi : ((S - 1 - t : Nat) : Int) = (S : Int) - 1 - (t : Int) := by omega
      cases wv with
      | true =>
        have HTK : Hid (P.take (t + 1) = P.take t ++ [refTo M M M]) := Lib.hid (HPL.out.2 t hlt2)
        clear hfi
        go_wp2_with fail
        refine (refForwards_ok 0 M ws (Nat.zero_le _) (by omega)).mono ?_
        rintro e wf ⟨vf, rfl, hown0, hbf⟩
        go_wp2
        go_loopw [11, 12] (fun v i wr => ∃ (m : Nat) (v1 : Value), v1 = v ∧ m ≤ M ∧ i = .int .i64 m ∧ OwnRow Form.act 73 wr ws.heap.size noB v1 (refTo M M m) ∧ Below ws.heap.size ws wr) (fun _ i _ => M - (intOf i).toNat)
        case atStart => exact ⟨0, _, rfl, Nat.zero_le _, rfl, hown0, hbf⟩
        case round =>
          clear hown0 hbf
          obtain ⟨m, va, rfl, hm, rfl, hown, hbs⟩ := hrel
          have hlen := refTo_length (g := M) (M := M) (by omega) m
          by_cases hlt3 : m < M
          · by_cases hgm : M + m < M
            · first
              | exfalso
                omega
              | skip
                have HST : Hid (refTo M M (m + 1) = (refTo M M m ++ [(1, ((M + m : Nat) : Int))]) ++ [(2, (m : Int))]) := Lib.hid (by rw [refTo, if_pos hgm, List.append_assoc])
                have e1 : (M : Int) + (m : Int) < (M : Int) := by omega
                have HG : Hid (((M + m : Nat) : Int) = (M : Int) + (m : Int)) := Lib.hid (by omega)
                obtain ⟨xs, hxs⟩ : ∃ xs, refTo M M m = xs := ⟨_, rfl⟩
                rw [hxs] at hown hlen HST
                rw [HG.out] at HST
                clear hxs hgm
                go_wp2_with (at_builtin; (refine wpList_push rfl (.tmp 55) (.tmp 60) 43 rfl Form.act ws.heap.size noB 73 i0 (.agg #[.int .i64 0, .int .i64 0]) 16 Tryd.underlying43 hi hz0 hz1 hz2 rfl (by decide) _ _ rfl (hown.keep ((Below.refl _ _).alloc (Nat.le_refl _) _)) wr.heap.size 1 [.int .i64 1, .int .i64 ((M : Int) + (m : Int))] 73 (1, (M : Int) + (m : Int)) rfl (Box.new _ _ _) (act_reads' _ _) (by omega) (by unfold maxLen; omega) (by have := hbs.size; simp; omega) _ rfl ?_))
                intro g0 cap w' hown' hgrow hlies hgs
                have hbn : Below ws.heap.size ws w' := Below.grown (Below.al hbs _) hgrow (by have := hbs.size; simp; omega) (fun k hk => (hown.base_le k hk).1)
                obtain ⟨ys, hys⟩ : ∃ ys, xs ++ [(1, (M : Int) + (m : Int))] = ys := ⟨_, rfl⟩
                have hyl : ys.length = xs.length + 1 := by rw [← hys]; simp
                rw [hys] at hown' HST
                have HYL := Lib.hid hyl
                have hyl2 : xs.length + 1 ≤ 60 := by omega
                clear hys hyl hown hgrow hlies hgs
                go_wp2_with (at_builtin; (refine wpList_push rfl (.tmp 62) (.tmp 65) 43 rfl Form.act ws.heap.size noB 73 i0 (.agg #[.int .i64 0, .int .i64 0]) 16 Tryd.underlying43 hi hz0 hz1 hz2 rfl (by decide) _ _ rfl (hown'.keep ((Below.refl _ _).alloc (Nat.le_refl _) _)) w'.heap.size 1 [.int .i64 2, .int .i64 (m : Int)] 73 (2, (m : Int)) rfl (Box.new _ _ _) (act_reads' _ _) (by rw [HYL.out]; omega) (by rw [HYL.out]; unfold maxLen; omega) (by have := hbn.size; simp; omega) _ rfl ?_))
                intro g1 cap1 w2 hown2 hgrow hlies hgs
                have hbn2 : Below ws.heap.size ws w2 := Below.grown (Below.al hbn _) hgrow (by have := hbn.size; simp; omega) (fun k hk => (hown'.base_le k hk).1)
                have HOWN := Lib.hid hown2
                clear hown2 hown' hgrow hlies hgs
                go_wp2
                go_roundw
                case rel => exact ⟨m + 1, _, rfl, hlt3, by go_num, by rw [HST.out]; exact HOWN.out, hbn2⟩
                case measure => simp [intOf]; omega
            · have HST : Hid (refTo M M (m + 1) = refTo M M m ++ [(2, (m : Int))]) := Lib.hid (by rw [refTo, if_neg hgm, List.nil_append])
              have e1 : ((M : Int) + (m : Int) < (M : Int)) = False := by simp; omega
              obtain ⟨ys, hys⟩ : ∃ ys, refTo M M m = ys := ⟨_, rfl⟩
              rw [hys] at hown hlen HST
              obtain ⟨w', hw'⟩ : ∃ w' : World, w' = wr := ⟨_, rfl⟩
              have hown' := hown
              have hbn := hbs
              clear hys hgm
              go_wp2_with (at_builtin; (refine wpList_push rfl (.tmp 62) (.tmp 65) 43 rfl Form.act ws.heap.size noB 73 i0 (.agg #[.int .i64 0, .int .i64 0]) 16 Tryd.underlying43 hi hz0 hz1 hz2 rfl (by decide) _ _ rfl (hown.keep ((Below.refl _ _).alloc (Nat.le_refl _) _)) wr.heap.size 1 [.int .i64 2, .int .i64 (m : Int)] 73 (2, (m : Int)) rfl (Box.new _ _ _) (act_reads' _ _) (by omega) (by unfold maxLen; omega) (by have := hbs.size; simp; omega) _ rfl ?_))
              intro g1 cap1 w2 hown2 hgrow hlies hgs
              have hbn2 : Below ws.heap.size ws w2 := Below.grown (Below.al hbs _) hgrow (by have := hbs.size; simp; omega) (fun k hk => (hown.base_le k hk).1)
              have HOWN := Lib.hid hown2
              clear hown2 hown hown' hgrow hlies hgs
              go_wp2
              go_roundw
              case rel => exact ⟨m + 1, _, rfl, hlt3, by go_num, by rw [HST.out]; exact HOWN.out, hbn2⟩
              case measure => simp [intOf]; omega
          · obtain rfl : M = m := by omega
            have hvo := hout.base_le
            obtain ⟨av, cv, bv, hv, hbv, hrow⟩ := hown.row (G := fun b => newB w.heap.size b ∧ vo.ownBlock ≠ some b) (fun b hb => hb.elim) (fun b hb => ⟨Nat.le_trans hbr.size hb, fun e => by have := (hvo b e).2; omega⟩)
            subst hv
            obtain ⟨st, hst⟩ : ∃ st, refTo M M M = st := ⟨_, rfl⟩
            rw [hst] at hrow HTK ⊢
            obtain ⟨sl, hsl⟩ : ∃ sl, st.length = sl := ⟨_, rfl⟩
            have hyr : Form.plan.reads (wr.alloc (.cells #[.slice av sl cv] 43)) (fun b => newB w.heap.size b ∧ vo.ownBlock ≠ some b) [.slice av sl cv] st := by
              rw [← hsl]
              exact ⟨av, _, cv, bv, 0, rfl, hrow.alloc _⟩
            rw [hsl]
            have hpl : (P.take t).length = t := by rw [List.length_take, HPL.out.1]; omega
            have hout2 := hout.keep hbs
            obtain ⟨ps, hps⟩ : ∃ ps, P.take t = ps := ⟨_, rfl⟩
            rw [hps] at hout2 hpl HTK
            have hpl6 : ps.length ≤ 6 := by omega
            have HTK2 := HTK
            clear hst hrow hbv hsl hps hout hown hpl hlen
            go_wp2_with (at_builtin; (refine wpList_push rfl (.tmp 67) (.tmp 69) 22 rfl Form.plan w.heap.size (newB w.heap.size) 43 j0 (.slice none 0 0) 24 Tryd.underlying22 hj hy0 hy1 hy2 rfl (by decide) _ ps rfl (hout2.keep ((Below.refl _ _).alloc (Nat.le_refl _) _)) wr.heap.size 1 [.slice av sl cv] 43 st rfl (Box.new _ _ _) hyr (by omega) (by unfold maxLen; omega) (by have := hbs.size; have := hbr.size; simp; omega) _ rfl ?_))
            intro g1 cap1 w2 hown2 hgrow hlies hgs
            have hbW : Below w.heap.size w w2 := Below.grown (Below.al (hbr.trans (hbs.mono hbr.size)) _) hgrow (by have := hbs.size; have := hbr.size; simp; omega) (fun k hk => (hout2.base_le k hk).1)
            have HOWN := Lib.hid hown2
            clear hown2 hout2 hgrow hlies hgs hyr hvo
            go_wp2
            go_roundw
            case rel => exact ⟨t + 1, _, rfl, hlt2, by go_num, by rw [HTK2.out]; exact HOWN.out, hbW⟩
            case measure => simp [intOf]; omega
      | false =>
        have hf12 : S - 1 - t ≤ 12 := by omega
        obtain ⟨f, hf⟩ : ∃ f, S - 1 - t = f := ⟨_, rfl⟩
        rw [hf] at hfi hf12
        have HTK0 : Hid (P.take (t + 1) = P.take t ++ [refTo (min f M) M M]) := Lib.hid (by rw [← hf]; exact HPL.out.2 t hlt2)
        have hfi2 : (S : Int) - 1 - (t : Int) = (f : Int) := hfi.symm
        clear hf hfi
        by_cases hfm : f ≤ M
        · have HTK : Hid (P.take (t + 1) = P.take t ++ [refTo f M M]) := Lib.hid (by rw [HTK0.out, show min f M = f by omega])
          have e5 : (M < f) = False := by simp; omega
          have e6 : ((f : Int) > (M : Int)) = False := by simp; omega
          clear hfm
          go_wp2_with fail
          refine (refForwards_ok 0 f ws (Nat.zero_le _) (by omega)).mono ?_
          rintro e wf ⟨vf, rfl, hown0, hbf⟩
          go_wp2
          go_loopw [11, 12] (fun v i wr => ∃ (m : Nat) (v1 : Value), v1 = v ∧ m ≤ M ∧ i = .int .i64 m ∧ OwnRow Form.act 73 wr ws.heap.size noB v1 (refTo f M m) ∧ Below ws.heap.size ws wr) (fun _ i _ => M - (intOf i).toNat)
          case atStart => exact ⟨0, _, rfl, Nat.zero_le _, rfl, hown0, hbf⟩
          case round =>
            clear hown0 hbf
            obtain ⟨m, va, rfl, hm, rfl, hown, hbs⟩ := hrel
            have hlen := refTo_length (g := f) (M := M) (by omega) m
            by_cases hlt3 : m < M
            · by_cases hgm : f + m < M
              · first
                | exfalso
                  omega
                | skip
                  have HST : Hid (refTo f M (m + 1) = (refTo f M m ++ [(1, ((f + m : Nat) : Int))]) ++ [(2, (m : Int))]) := Lib.hid (by rw [refTo, if_pos hgm, List.append_assoc])
                  have e1 : (f : Int) + (m : Int) < (M : Int) := by omega
                  have HG : Hid (((f + m : Nat) : Int) = (f : Int) + (m : Int)) := Lib.hid (by omega)
                  obtain ⟨xs, hxs⟩ : ∃ xs, refTo f M m = xs := ⟨_, rfl⟩
                  rw [hxs] at hown hlen HST
                  rw [HG.out] at HST
                  clear hxs hgm
                  go_wp2_with (at_builtin; (refine wpList_push rfl (.tmp 55) (.tmp 60) 43 rfl Form.act ws.heap.size noB 73 i0 (.agg #[.int .i64 0, .int .i64 0]) 16 Tryd.underlying43 hi hz0 hz1 hz2 rfl (by decide) _ _ rfl (hown.keep ((Below.refl _ _).alloc (Nat.le_refl _) _)) wr.heap.size 1 [.int .i64 1, .int .i64 ((f : Int) + (m : Int))] 73 (1, (f : Int) + (m : Int)) rfl (Box.new _ _ _) (act_reads' _ _) (by omega) (by unfold maxLen; omega) (by have := hbs.size; simp; omega) _ rfl ?_))
                  intro g0 cap w' hown' hgrow hlies hgs
                  have hbn : Below ws.heap.size ws w' := Below.grown (Below.al hbs _) hgrow (by have := hbs.size; simp; omega) (fun k hk => (hown.base_le k hk).1)
                  obtain ⟨ys, hys⟩ : ∃ ys, xs ++ [(1, (f : Int) + (m : Int))] = ys := ⟨_, rfl⟩
                  have hyl : ys.length = xs.length + 1 := by rw [← hys]; simp
                  rw [hys] at hown' HST
                  have HYL := Lib.hid hyl
                  have hyl2 : xs.length + 1 ≤ 60 := by omega
                  clear hys hyl hown hgrow hlies hgs
                  go_wp2_with (at_builtin; (refine wpList_push rfl (.tmp 62) (.tmp 65) 43 rfl Form.act ws.heap.size noB 73 i0 (.agg #[.int .i64 0, .int .i64 0]) 16 Tryd.underlying43 hi hz0 hz1 hz2 rfl (by decide) _ _ rfl (hown'.keep ((Below.refl _ _).alloc (Nat.le_refl _) _)) w'.heap.size 1 [.int .i64 2, .int .i64 (m : Int)] 73 (2, (m : Int)) rfl (Box.new _ _ _) (act_reads' _ _) (by rw [HYL.out]; omega) (by rw [HYL.out]; unfold maxLen; omega) (by have := hbn.size; simp; omega) _ rfl ?_))
                  intro g1 cap1 w2 hown2 hgrow hlies hgs
                  have hbn2 : Below ws.heap.size ws w2 := Below.grown (Below.al hbn _) hgrow (by have := hbn.size; simp; omega) (fun k hk => (hown'.base_le k hk).1)
                  have HOWN := Lib.hid hown2
                  clear hown2 hown' hgrow hlies hgs
                  go_wp2
                  go_roundw
                  case rel => exact ⟨m + 1, _, rfl, hlt3, by go_num, by rw [HST.out]; exact HOWN.out, hbn2⟩
                  case measure => simp [intOf]; omega
              · have HST : Hid (refTo f M (m + 1) = refTo f M m ++ [(2, (m : Int))]) := Lib.hid (by rw [refTo, if_neg hgm, List.nil_append])
                have e1 : ((f : Int) + (m : Int) < (M : Int)) = False := by simp; omega
                obtain ⟨ys, hys⟩ : ∃ ys, refTo f M m = ys := ⟨_, rfl⟩
                rw [hys] at hown hlen HST
                obtain ⟨w', hw'⟩ : ∃ w' : World, w' = wr := ⟨_, rfl⟩
                have hown' := hown
                have hbn := hbs
                clear hys hgm
                go_wp2_with (at_builtin; (refine wpList_push rfl (.tmp 62) (.tmp 65) 43 rfl Form.act ws.heap.size noB 73 i0 (.agg #[.int .i64 0, .int .i64 0]) 16 Tryd.underlying43 hi hz0 hz1 hz2 rfl (by decide) _ _ rfl (hown.keep ((Below.refl _ _).alloc (Nat.le_refl _) _)) wr.heap.size 1 [.int .i64 2, .int .i64 (m : Int)] 73 (2, (m : Int)) rfl (Box.new _ _ _) (act_reads' _ _) (by omega) (by unfold maxLen; omega) (by have := hbs.size; simp; omega) _ rfl ?_))
                intro g1 cap1 w2 hown2 hgrow hlies hgs
                have hbn2 : Below ws.heap.size ws w2 := Below.grown (Below.al hbs _) hgrow (by have := hbs.size; simp; omega) (fun k hk => (hown.base_le k hk).1)
                have HOWN := Lib.hid hown2
                clear hown2 hown hown' hgrow hlies hgs
                go_wp2
                go_roundw
                case rel => exact ⟨m + 1, _, rfl, hlt3, by go_num, by rw [HST.out]; exact HOWN.out, hbn2⟩
                case measure => simp [intOf]; omega
            · obtain rfl : M = m := by omega
              have hvo := hout.base_le
              obtain ⟨av, cv, bv, hv, hbv, hrow⟩ := hown.row (G := fun b => newB w.heap.size b ∧ vo.ownBlock ≠ some b) (fun b hb => hb.elim) (fun b hb => ⟨Nat.le_trans hbr.size hb, fun e => by have := (hvo b e).2; omega⟩)
              subst hv
              obtain ⟨st, hst⟩ : ∃ st, refTo f M M = st := ⟨_, rfl⟩
              rw [hst] at hrow HTK ⊢
              obtain ⟨sl, hsl⟩ : ∃ sl, st.length = sl := ⟨_, rfl⟩
              have hyr : Form.plan.reads (wr.alloc (.cells #[.slice av sl cv] 43)) (fun b => newB w.heap.size b ∧ vo.ownBlock ≠ some b) [.slice av sl cv] st := by
                rw [← hsl]
                exact ⟨av, _, cv, bv, 0, rfl, hrow.alloc _⟩
              rw [hsl]
              have hpl : (P.take t).length = t := by rw [List.length_take, HPL.out.1]; omega
              have hout2 := hout.keep hbs
              obtain ⟨ps, hps⟩ : ∃ ps, P.take t = ps := ⟨_, rfl⟩
              rw [hps] at hout2 hpl HTK
              have hpl6 : ps.length ≤ 6 := by omega
              have HTK2 := HTK
              clear hst hrow hbv hsl hps hout hown hpl hlen
              go_wp2_with (at_builtin; (refine wpList_push rfl (.tmp 67) (.tmp 69) 22 rfl Form.plan w.heap.size (newB w.heap.size) 43 j0 (.slice none 0 0) 24 Tryd.underlying22 hj hy0 hy1 hy2 rfl (by decide) _ ps rfl (hout2.keep ((Below.refl _ _).alloc (Nat.le_refl _) _)) wr.heap.size 1 [.slice av sl cv] 43 st rfl (Box.new _ _ _) hyr (by omega) (by unfold maxLen; omega) (by have := hbs.size; have := hbr.size; simp; omega) _ rfl ?_))
              intro g1 cap1 w2 hown2 hgrow hlies hgs
              have hbW : Below w.heap.size w w2 := Below.grown (Below.al (hbr.trans (hbs.mono hbr.size)) _) hgrow (by have := hbs.size; have := hbr.size; simp; omega) (fun k hk => (hout2.base_le k hk).1)
              have HOWN := Lib.hid hown2
              clear hown2 hout2 hgrow hlies hgs hyr hvo
              go_wp2
              go_roundw
              case rel => exact ⟨t + 1, _, rfl, hlt2, by go_num, by rw [HTK2.out]; exact HOWN.out, hbW⟩
              case measure => simp [intOf]; omega
        · have HTK : Hid (P.take (t + 1) = P.take t ++ [refTo M M M]) := Lib.hid (by rw [HTK0.out, show min f M = M by omega])
          have e5 : (M < f) = True := by simp; omega
          clear hfm
          go_wp2_with fail
          refine (refForwards_ok 0 M ws (Nat.zero_le _) (by omega)).mono ?_
          rintro e wf ⟨vf, rfl, hown0, hbf⟩
          go_wp2
          go_loopw [11, 12] (fun v i wr => ∃ (m : Nat) (v1 : Value), v1 = v ∧ m ≤ M ∧ i = .int .i64 m ∧ OwnRow Form.act 73 wr ws.heap.size noB v1 (refTo M M m) ∧ Below ws.heap.size ws wr) (fun _ i _ => M - (intOf i).toNat)
          case atStart => exact ⟨0, _, rfl, Nat.zero_le _, rfl, hown0, hbf⟩
          case round =>
            clear hown0 hbf
            obtain ⟨m, va, rfl, hm, rfl, hown, hbs⟩ := hrel
            have hlen := refTo_length (g := M) (M := M) (by omega) m
            by_cases hlt3 : m < M
            · by_cases hgm : M + m < M
              · first
                | exfalso
                  omega
                | skip
                  have HST : Hid (refTo M M (m + 1) = (refTo M M m ++ [(1, ((M + m : Nat) : Int))]) ++ [(2, (m : Int))]) := Lib.hid (by rw [refTo, if_pos hgm, List.append_assoc])
                  have e1 : (M : Int) + (m : Int) < (M : Int) := by omega
                  have HG : Hid (((M + m : Nat) : Int) = (M : Int) + (m : Int)) := Lib.hid (by omega)
                  obtain ⟨xs, hxs⟩ : ∃ xs, refTo M M m = xs := ⟨_, rfl⟩
                  rw [hxs] at hown hlen HST
                  rw [HG.out] at HST
                  clear hxs hgm
                  go_wp2_with (at_builtin; (refine wpList_push rfl (.tmp 55) (.tmp 60) 43 rfl Form.act ws.heap.size noB 73 i0 (.agg #[.int .i64 0, .int .i64 0]) 16 Tryd.underlying43 hi hz0 hz1 hz2 rfl (by decide) _ _ rfl (hown.keep ((Below.refl _ _).alloc (Nat.le_refl _) _)) wr.heap.size 1 [.int .i64 1, .int .i64 ((M : Int) + (m : Int))] 73 (1, (M : Int) + (m : Int)) rfl (Box.new _ _ _) (act_reads' _ _) (by omega) (by unfold maxLen; omega) (by have := hbs.size; simp; omega) _ rfl ?_))
                  intro g0 cap w' hown' hgrow hlies hgs
                  have hbn : Below ws.heap.size ws w' := Below.grown (Below.al hbs _) hgrow (by have := hbs.size; simp; omega) (fun k hk => (hown.base_le k hk).1)
                  obtain ⟨ys, hys⟩ : ∃ ys, xs ++ [(1, (M : Int) + (m : Int))] = ys := ⟨_, rfl⟩
                  have hyl : ys.length = xs.length + 1 := by rw [← hys]; simp
                  rw [hys] at hown' HST
                  have HYL := Lib.hid hyl
                  have hyl2 : xs.length + 1 ≤ 60 := by omega
                  clear hys hyl hown hgrow hlies hgs
                  go_wp2_with (at_builtin; (refine wpList_push rfl (.tmp 62) (.tmp 65) 43 rfl Form.act ws.heap.size noB 73 i0 (.agg #[.int .i64 0, .int .i64 0]) 16 Tryd.underlying43 hi hz0 hz1 hz2 rfl (by decide) _ _ rfl (hown'.keep ((Below.refl _ _).alloc (Nat.le_refl _) _)) w'.heap.size 1 [.int .i64 2, .int .i64 (m : Int)] 73 (2, (m : Int)) rfl (Box.new _ _ _) (act_reads' _ _) (by rw [HYL.out]; omega) (by rw [HYL.out]; unfold maxLen; omega) (by have := hbn.size; simp; omega) _ rfl ?_))
                  intro g1 cap1 w2 hown2 hgrow hlies hgs
                  have hbn2 : Below ws.heap.size ws w2 := Below.grown (Below.al hbn _) hgrow (by have := hbn.size; simp; omega) (fun k hk => (hown'.base_le k hk).1)
                  have HOWN := Lib.hid hown2
                  clear hown2 hown' hgrow hlies hgs
                  go_wp2
                  go_roundw
                  case rel => exact ⟨m + 1, _, rfl, hlt3, by go_num, by rw [HST.out]; exact HOWN.out, hbn2⟩
                  case measure => simp [intOf]; omega
              · have HST : Hid (refTo M M (m + 1) = refTo M M m ++ [(2, (m : Int))]) := Lib.hid (by rw [refTo, if_neg hgm, List.nil_append])
                have e1 : ((M : Int) + (m : Int) < (M : Int)) = False := by simp; omega
                obtain ⟨ys, hys⟩ : ∃ ys, refTo M M m = ys := ⟨_, rfl⟩
                rw [hys] at hown hlen HST
                obtain ⟨w', hw'⟩ : ∃ w' : World, w' = wr := ⟨_, rfl⟩
                have hown' := hown
                have hbn := hbs
                clear hys hgm
                go_wp2_with (at_builtin; (refine wpList_push rfl (.tmp 62) (.tmp 65) 43 rfl Form.act ws.heap.size noB 73 i0 (.agg #[.int .i64 0, .int .i64 0]) 16 Tryd.underlying43 hi hz0 hz1 hz2 rfl (by decide) _ _ rfl (hown.keep ((Below.refl _ _).alloc (Nat.le_refl _) _)) wr.heap.size 1 [.int .i64 2, .int .i64 (m : Int)] 73 (2, (m : Int)) rfl (Box.new _ _ _) (act_reads' _ _) (by omega) (by unfold maxLen; omega) (by have := hbs.size; simp; omega) _ rfl ?_))
                intro g1 cap1 w2 hown2 hgrow hlies hgs
                have hbn2 : Below ws.heap.size ws w2 := Below.grown (Below.al hbs _) hgrow (by have := hbs.size; simp; omega) (fun k hk => (hown.base_le k hk).1)
                have HOWN := Lib.hid hown2
                clear hown2 hown hown' hgrow hlies hgs
                go_wp2
                go_roundw
                case rel => exact ⟨m + 1, _, rfl, hlt3, by go_num, by rw [HST.out]; exact HOWN.out, hbn2⟩
                case measure => simp [intOf]; omega
            · obtain rfl : M = m := by omega
              have hvo := hout.base_le
              obtain ⟨av, cv, bv, hv, hbv, hrow⟩ := hown.row (G := fun b => newB w.heap.size b ∧ vo.ownBlock ≠ some b) (fun b hb => hb.elim) (fun b hb => ⟨Nat.le_trans hbr.size hb, fun e => by have := (hvo b e).2; omega⟩)
              subst hv
              obtain ⟨st, hst⟩ : ∃ st, refTo M M M = st := ⟨_, rfl⟩
              rw [hst] at hrow HTK ⊢
              obtain ⟨sl, hsl⟩ : ∃ sl, st.length = sl := ⟨_, rfl⟩
              have hyr : Form.plan.reads (wr.alloc (.cells #[.slice av sl cv] 43)) (fun b => newB w.heap.size b ∧ vo.ownBlock ≠ some b) [.slice av sl cv] st := by
                rw [← hsl]
                exact ⟨av, _, cv, bv, 0, rfl, hrow.alloc _⟩
              rw [hsl]
              have hpl : (P.take t).length = t := by rw [List.length_take, HPL.out.1]; omega
              have hout2 := hout.keep hbs
              obtain ⟨ps, hps⟩ : ∃ ps, P.take t = ps := ⟨_, rfl⟩
              rw [hps] at hout2 hpl HTK
              have hpl6 : ps.length ≤ 6 := by omega
              have HTK2 := HTK
              clear hst hrow hbv hsl hps hout hown hpl hlen
              go_wp2_with (at_builtin; (refine wpList_push rfl (.tmp 67) (.tmp 69) 22 rfl Form.plan w.heap.size (newB w.heap.size) 43 j0 (.slice none 0 0) 24 Tryd.underlying22 hj hy0 hy1 hy2 rfl (by decide) _ ps rfl (hout2.keep ((Below.refl _ _).alloc (Nat.le_refl _) _)) wr.heap.size 1 [.slice av sl cv] 43 st rfl (Box.new _ _ _) hyr (by omega) (by unfold maxLen; omega) (by have := hbs.size; have := hbr.size; simp; omega) _ rfl ?_))
              intro g1 cap1 w2 hown2 hgrow hlies hgs
              have hbW : Below w.heap.size w w2 := Below.grown (Below.al (hbr.trans (hbs.mono hbr.size)) _) hgrow (by have := hbs.size; have := hbr.size; simp; omega) (fun k hk => (hout2.base_le k hk).1)
              have HOWN := Lib.hid hown2
              clear hown2 hout2 hgrow hlies hgs hyr hvo
              go_wp2
              go_roundw
              case rel => exact ⟨t + 1, _, rfl, hlt2, by go_num, by rw [HTK2.out]; exact HOWN.out, hbW⟩
              case measure => simp [intOf]; omega
    · obtain rfl : S = t := by omega
      have hpl : P.take S = P := List.take_of_length_le (by rw [HPL.out.1]; exact Nat.le_refl _)
      rw [hpl] at hout
      obtain ⟨a, cap, b, hv, hbb, hrow⟩ := hout.row (G := anyB) (fun _ _ _ => trivial) (fun _ _ => trivial)
      rw [HPL.out.1] at hv hbb hrow
      have HV := Lib.hid hv
      clear hv hpl hout
      go_wp2
      go_ret2
      exact ⟨a, cap, b, by rw [HV.out]; rfl, hrow, hbr⟩
theorem refPlanOf_bad (S M : Int) (wv : Bool) (w : World) (h : ¬ ((1 ≤ S ∧ S ≤ 6) ∧ 1 ≤ M ∧ M ≤ 12)) : Calls Tryd.prog 9 #[.int .i64 S, .int .i64 M, .bool wv] w fun e w' => e = .returned (.tuple #[.slice none 0 0, .int .i64 1]) ∧ w = w' := by
  by_cases g1 : S < 1
  · clear h
    go_enter Tryd.func9, Tryd.ntmps9
    go_wp2
    go_ret2
    exact ⟨rfl, rfl⟩
  · have e1 : (S < 1) = False := by simp; omega
    by_cases g2 : S > 6
    · clear h g1
      go_enter Tryd.func9, Tryd.ntmps9
      go_wp2
      go_ret2
      exact ⟨rfl, rfl⟩
    · have e2 : (S > 6) = False := by simp; omega
      by_cases g3 : M < 1
      · clear h g1 g2
        go_enter Tryd.func9, Tryd.ntmps9
        go_wp2
        go_ret2
        exact ⟨rfl, rfl⟩
      · have e3 : (M < 1) = False := by simp; omega
        have e4 : M > 12 := by omega
        clear h g1 g2 g3
        go_enter Tryd.func9, Tryd.ntmps9
        go_wp2
        go_ret2
        exact ⟨rfl, rfl⟩
end Go.Proofs.YtjaepdkeldgikaaDoor
