/- Texts joined: Plan5. -/
import Derived.Test.YtchngeagnlngaaaJ46
section
set_option linter.unusedVariables false
set_option linter.unusedSimpArgs false
set_option linter.unusedSectionVars false
namespace Gal
open Go
theorem hdr_apart {E : TypeId} {w : World} {base : Nat} {F : Nat → Prop} {v : Value} {hs : List RowD} (h : OwnRow Form.hdr E w base F v hs) : ∀ y ∈ hs, 0 < y.2.length → v.ownBlock ≠ some y.1.1 ∧ F y.1.1 := fun y hy hl => by
 obtain ⟨cs, _, hf⟩ := h.holds
 obtain ⟨i, hi⟩ := List.getElem?_of_mem hy
 obtain ⟨c, ⟨_, h1, _⟩, _⟩ := hf.at i y hi
 have := h1.blk hl
 exact ⟨this.2, this.1⟩
theorem own_cells {α : Type} {f : Form α} {E : TypeId} {w : World} {base : Nat} {F : Nat → Prop} {v : Value} {xs : List α} (h : OwnRow f E w base F v xs) (hl : 0 < xs.length) : ∀ g, v.ownBlock = some g → ∃ cur T, w.heap[g]? = some (.cells cur T (0, 0)) := fun g hg => by
 obtain ⟨cs, ⟨_, h1⟩, _⟩ := h.holds
 rcases h1 with ⟨rfl, h0⟩ | ⟨g', cap, cur, rfl, _, hc, _⟩
 ·omega
 ·have : g' = g := by simpa [Value.ownBlock] using hg
  subst this
  exact ⟨cur, E, hc⟩
theorem act_reads' {w : World} {F : Nat → Prop} (x0 x1 : Int) : Form.act.reads w F [.int .i64 x0, .int .i64 x1] (x0, x1) := ⟨[.int .i64 x0], [.int .i64 x1], rfl, rfl, rfl⟩
end Gal
namespace Go.Proofs.Ytchngeagnlngaaa
open Go.RowKit Gal Go.Maps
set_option maxRecDepth 100000
set_option maxHeartbeats 8000000
theorem aheadWave_ok (S M : Nat) (q : Nat) (T : TypeId) (w : World) (hq : Box w q [.int .i64 M] T) (hS : 1 ≤ S ∧ S ≤ 6) (hM : 1 ≤ M ∧ M ≤ 12) :
    Calls Try.prog 46 #[.int .i64 S, .int .i64 M, .func (.func 48) #[] #[.pointer (some ⟨q, 0, none⟩)]] w fun e w' => ∃ a k b hs, e = .returned (.tuple #[.slice a S k, .nilIface]) ∧ hs.map (·.2) = aheadOf S M (fun s => M) ∧ Rising hs ∧ (∀ y ∈ hs, w.heap.size ≤ y.1.1 ∧ y.1.1 ≠ b) ∧ RowAt Form.hdr w' anyB a S k b 0 hs ∧ w.heap.size ≤ b ∧ Below w.heap.size w w' := by
  obtain ⟨i0, hi, hz0, hz1, hz2⟩ := info_parts info_act
  obtain ⟨j0, hj, hy0, hy1, hy2⟩ := info_parts info_acts
  obtain ⟨S1, S2⟩ := hS
  obtain ⟨M1, M2⟩ := hM
  have hlt := hq.lt
  have HAL : Hid (∀ t, t < S → (aheadOf S M (fun s => M)).take (t + 1) = (aheadOf S M (fun s => M)).take t ++ [stageTo ((fun s => M) t) M M]) := Lib.hid fun t ht => by
    rw [List.take_succ_eq_append_getElem (by rw [aheadOf_length]; exact ht)]
    simp [aheadOf]
  go_enter Try.func46, Try.ntmps46
  go_wp2_with fail
  refine (planFits_any S M w).mono ?_
  rintro e w1 ⟨rfl, rfl⟩
  rw [decide_eq_true (by omega : (1 ≤ (S : Int) ∧ (S : Int) ≤ 6) ∧ 1 ≤ (M : Int) ∧ (M : Int) ≤ 12)]
  go_wp2
  go_loopw [8, 19] (fun v i wr => ∃ (t : Nat) (hs : List RowD) (v0 : Value), v0 = v ∧ t ≤ S ∧ i = .int .i64 t ∧ Hid (hs.map (·.2) = (aheadOf S M (fun s => M)).take t) ∧ Hid (Rising hs) ∧ Hid (∀ y ∈ hs, w.heap.size ≤ y.1.1 ∧ y.1.1 < wr.heap.size) ∧ OwnRow Form.hdr 115 wr w.heap.size (newB w.heap.size) v0 hs ∧ Below w.heap.size w wr) (fun _ i _ => S - (intOf i).toNat)
  case atStart => exact ⟨0, [], _, rfl, Nat.zero_le _, rfl, Lib.hid rfl, Lib.hid List.Pairwise.nil, Lib.hid (fun y hy => absurd hy List.not_mem_nil), OwnRow.nil _ _ _ _ _, Below.x0⟩
  case round =>
    obtain ⟨t, hs, vo, rfl, ht, rfl, hmap, hris, hbds, hout, hbr⟩ := hrel
    by_cases hlt2 : t < S
    · obtain ⟨ws, rfl⟩ : ∃ ws : World, ws = wr := ⟨_, rfl⟩
      skip
      have hfM : M ≤ 12 := by omega
      have HF : Hid ((fun s => M) t = M) := Lib.hid (by first | rfl | exact hf0)
      have HFI : Hid ((M : Int) = (M : Int)) := Lib.hid (by first | rfl | (rw [hf0]))
      try clear hf0
      go_wp2
      go_loopw [10, 11, 23] (fun v x i wr => ∃ (m : Nat) (v1 : Value), v1 = v ∧ m ≤ M ∧ i = .int .i64 m ∧ x = .int .i64 (nxtA M M m) ∧ OwnRow Form.act 122 wr ws.heap.size noB v1 (stageTo M M m) ∧ Below ws.heap.size ws wr) (fun _ _ i _ => M - (intOf i).toNat)
      case atStart => exact ⟨0, _, rfl, Nat.zero_le _, rfl, rfl, OwnRow.nil _ _ _ _ _, Below.x0⟩
      case round =>
        obtain ⟨m, va, rfl, hm, rfl, rfl, hown, hbs⟩ := hrel
        by_cases hlt3 : m < M
        · obtain ⟨wt, rfl⟩ : ∃ wt : World, wt = wr := ⟨_, rfl⟩
          have hmono := nxtA_mono (f := M) hlt3
          have hnle := nxtA_le (f := M) (M := M) (m := m + 1)
          have hnx : ((nxtA M M (m + 1) : Nat) : Int) = min ((M : Int) + 1 + (m : Int)) (M : Int) := by rw [nxtA_next]; omega
          have HNX := Lib.hid hnx
          obtain ⟨n0, hn0⟩ : ∃ n0, nxtA M M m = n0 := ⟨_, rfl⟩
          obtain ⟨n1, hn1⟩ : ∃ n1, nxtA M M (m + 1) = n1 := ⟨_, rfl⟩
          rw [hn0, hn1] at hmono
          rw [hn1] at hnle HNX
          rw [hn0]
          have HST : Hid (stageTo M M (m + 1) = stageTo M M m ++ fwdL n0 n1 ++ [(2, (m : Int))] ∧ nxtA M M (m + 1) = n1 ∧ (stageTo M M m).length + n1 ≤ 100) := Lib.hid ⟨by rw [stageTo, hn0, hn1], hn1, by rw [stageTo_length hm, hn0]; omega⟩
          clear hnx hn0 hn1
          go_wp2
          go_loopw [10, 11] (fun v x wr => ∃ (c : Nat) (v2 : Value), v2 = v ∧ n0 ≤ c ∧ c ≤ n1 ∧ x = .int .i64 c ∧ OwnRow Form.act 122 wr ws.heap.size noB v2 (stageTo M M m ++ fwdL n0 c) ∧ Below ws.heap.size ws wr) (fun _ x _ => n1 - (intOf x).toNat)
          case atStart => exact ⟨n0, _, rfl, Nat.le_refl _, hmono, rfl, by rw [fwdL_nil, List.append_nil]; exact hown, hbs⟩
          case round =>
            obtain ⟨c, vb, rfl, hc0, hc1, rfl, hownb, hbt⟩ := hrel
            have hbw : Below w.heap.size w wr := hbr.trans (hbt.mono hbr.size)
            have hqr := hq.keep hbw
            go_wp2_with fail
            refine (wave1_any (t : Int) (M : Int) q T _ hqr).mono ?_
            rintro e wc ⟨rfl, rfl⟩
            skip
            rcases Nat.lt_or_ge M (M + 1 + m) with hmn | hmn
            · have hmnI : (M : Int) < (M : Int) + 1 + (m : Int) := by omega
              have HMN := Lib.hid hmn
              clear hmn
              obtain ⟨xs, hxs⟩ : ∃ xs, stageTo M M m ++ fwdL n0 c = xs := ⟨_, rfl⟩
              rw [hxs] at hownb
              have hlenb : xs.length ≤ 200 := by
                have h1 := HST.out.2.2
                rw [← hxs, List.length_append]
                have h2 : (fwdL n0 c).length = c - n0 := by simp [fwdL]
                omega
              have HXS := Lib.hid hxs
              clear hxs
              by_cases hlt4 : c < n1
              · have e1 : (c : Int) < (M : Int) + 1 + (m : Int) := by have := HNX.out; omega
                have e2 : c < M := by omega
                have HXN : Hid (stageTo M M m ++ fwdL n0 (c + 1) = xs ++ [(1, (c : Int))]) := Lib.hid (by rw [fwdL_snoc hc0, ← List.append_assoc, HXS.out])
                go_wp2_with (at_builtin; (refine wpList_push rfl (.tmp 36) (.tmp 39) 115 rfl Form.act ws.heap.size noB 122 i0 (.agg #[.int .i64 0, .int .i64 0]) 16 Try.underlying115 hi hz0 hz1 hz2 rfl (by decide) _ _ rfl (hownb.keep ((Below.refl _ _).alloc (Nat.le_refl _) _)) wr.heap.size 1 [.int .i64 1, .int .i64 (c : Int)] 122 (1, (c : Int)) rfl (Box.new _ _ _) (act_reads' _ _) (by omega) (by unfold maxLen; omega) (by have := hbt.size; simp; omega) _ rfl ?_))
                intro g cap w' hown' hgrow hlies hgs
                have hbn : Below ws.heap.size ws w' := Below.grown (Below.al hbt _) hgrow (by have := hbt.size; simp; omega) (fun k hk => (hownb.base_le k hk).1)
                have HOWN := Lib.hid hown'
                clear hown' hgrow hlies hgs
                go_wp2
                go_roundw
                case rel => exact ⟨c + 1, _, rfl, by omega, hlt4, by go_num, by rw [HXN.out]; exact HOWN.out, hbn⟩
                case measure => simp [intOf]; omega
              · obtain rfl : n1 = c := by omega
                have HXN : Hid (stageTo M M (m + 1) = xs ++ [(2, (m : Int))]) := Lib.hid (by rw [HST.out.1, HXS.out])
                have e1 : (n1 < M) = False ∨ ¬ M < M + 1 + m := by
                  have := HNX.out
                  by_cases hnM : n1 = M
                  · left; simp; omega
                  · right; omega
                have e2 : ((n1 : Int) < (M : Int) + 1 + (m : Int)) = False ∨ M < M + 1 + m := by
                  have := HNX.out
                  by_cases hnM : n1 = M
                  · by_cases h3 : M < M + 1 + m
                    · right; exact h3
                    · left; simp; omega
                  · left; simp; omega
                have e3 : (n1 < M) = False ∨ ((n1 : Int) < (M : Int) + 1 + (m : Int)) = False := by
                  rcases e1 with h1 | h1
                  · exact Or.inl h1
                  · rcases e2 with h2 | h2
                    · exact Or.inr h2
                    · exact absurd h2 h1
                have E1 : Hid ((n1 < M) = False ∨ ¬ M < M + 1 + m) := Lib.hid e1
                have E2 : Hid (((n1 : Int) < (M : Int) + 1 + (m : Int)) = False ∨ M < M + 1 + m) := Lib.hid e2
                clear e1 e2 e3
                first
                | have e1 : (n1 < M) = False := E1.out.resolve_right (fun h => h HMN.out)
                  go_wp2_with (at_builtin; (refine wpList_push rfl (.tmp 43) (.tmp 46) 115 rfl Form.act ws.heap.size noB 122 i0 (.agg #[.int .i64 0, .int .i64 0]) 16 Try.underlying115 hi hz0 hz1 hz2 rfl (by decide) _ _ rfl (hownb.keep ((Below.refl _ _).alloc (Nat.le_refl _) _)) wr.heap.size 1 [.int .i64 2, .int .i64 (m : Int)] 122 (2, (m : Int)) rfl (Box.new _ _ _) (act_reads' _ _) (by omega) (by unfold maxLen; omega) (by have := hbt.size; simp; omega) _ rfl ?_))
                  intro g cap w' hown' hgrow hlies hgs
                  have hbn : Below ws.heap.size ws w' := Below.grown (Below.al hbt _) hgrow (by have := hbt.size; simp; omega) (fun k hk => (hownb.base_le k hk).1)
                  have HOWN := Lib.hid hown'
                  clear hown' hgrow hlies hgs
                  go_wp2
                  go_roundw
                  case rel => exact ⟨m + 1, _, rfl, hlt3, by go_num, (by rw [HST.out.2.1]; first | done | rfl | (congr 1; omega)), by rw [HXN.out]; exact HOWN.out, hbn⟩
                  case measure => simp [intOf]; omega
                | have e1 : ((n1 : Int) < (M : Int) + 1 + (m : Int)) = False := E2.out.resolve_right (Nat.not_lt.2 HMN.out)
                  go_wp2_with (at_builtin; (refine wpList_push rfl (.tmp 43) (.tmp 46) 115 rfl Form.act ws.heap.size noB 122 i0 (.agg #[.int .i64 0, .int .i64 0]) 16 Try.underlying115 hi hz0 hz1 hz2 rfl (by decide) _ _ rfl (hownb.keep ((Below.refl _ _).alloc (Nat.le_refl _) _)) wr.heap.size 1 [.int .i64 2, .int .i64 (m : Int)] 122 (2, (m : Int)) rfl (Box.new _ _ _) (act_reads' _ _) (by omega) (by unfold maxLen; omega) (by have := hbt.size; simp; omega) _ rfl ?_))
                  intro g cap w' hown' hgrow hlies hgs
                  have hbn : Below ws.heap.size ws w' := Below.grown (Below.al hbt _) hgrow (by have := hbt.size; simp; omega) (fun k hk => (hownb.base_le k hk).1)
                  have HOWN := Lib.hid hown'
                  clear hown' hgrow hlies hgs
                  go_wp2
                  go_roundw
                  case rel => exact ⟨m + 1, _, rfl, hlt3, by go_num, (by rw [HST.out.2.1]; first | done | rfl | (congr 1; omega)), by rw [HXN.out]; exact HOWN.out, hbn⟩
                  case measure => simp [intOf]; omega
            · first
              | exfalso
                omega
              | skip
                have hmnI : ((M : Int) < (M : Int) + 1 + (m : Int)) = False := by simp; omega
                have HMN := Lib.hid hmn
                clear hmn
                obtain ⟨xs, hxs⟩ : ∃ xs, stageTo M M m ++ fwdL n0 c = xs := ⟨_, rfl⟩
                rw [hxs] at hownb
                have hlenb : xs.length ≤ 200 := by
                  have h1 := HST.out.2.2
                  rw [← hxs, List.length_append]
                  have h2 : (fwdL n0 c).length = c - n0 := by simp [fwdL]
                  omega
                have HXS := Lib.hid hxs
                clear hxs
                by_cases hlt4 : c < n1
                · have e1 : (c : Int) < (M : Int) + 1 + (m : Int) := by have := HNX.out; omega
                  have e2 : c < M := by omega
                  have HXN : Hid (stageTo M M m ++ fwdL n0 (c + 1) = xs ++ [(1, (c : Int))]) := Lib.hid (by rw [fwdL_snoc hc0, ← List.append_assoc, HXS.out])
                  go_wp2_with (at_builtin; (refine wpList_push rfl (.tmp 36) (.tmp 39) 115 rfl Form.act ws.heap.size noB 122 i0 (.agg #[.int .i64 0, .int .i64 0]) 16 Try.underlying115 hi hz0 hz1 hz2 rfl (by decide) _ _ rfl (hownb.keep ((Below.refl _ _).alloc (Nat.le_refl _) _)) wr.heap.size 1 [.int .i64 1, .int .i64 (c : Int)] 122 (1, (c : Int)) rfl (Box.new _ _ _) (act_reads' _ _) (by omega) (by unfold maxLen; omega) (by have := hbt.size; simp; omega) _ rfl ?_))
                  intro g cap w' hown' hgrow hlies hgs
                  have hbn : Below ws.heap.size ws w' := Below.grown (Below.al hbt _) hgrow (by have := hbt.size; simp; omega) (fun k hk => (hownb.base_le k hk).1)
                  have HOWN := Lib.hid hown'
                  clear hown' hgrow hlies hgs
                  go_wp2
                  go_roundw
                  case rel => exact ⟨c + 1, _, rfl, by omega, hlt4, by go_num, by rw [HXN.out]; exact HOWN.out, hbn⟩
                  case measure => simp [intOf]; omega
                · obtain rfl : n1 = c := by omega
                  have HXN : Hid (stageTo M M (m + 1) = xs ++ [(2, (m : Int))]) := Lib.hid (by rw [HST.out.1, HXS.out])
                  have e1 : (n1 < M) = False ∨ ¬ M < M + 1 + m := by
                    have := HNX.out
                    by_cases hnM : n1 = M
                    · left; simp; omega
                    · right; omega
                  have e2 : ((n1 : Int) < (M : Int) + 1 + (m : Int)) = False ∨ M < M + 1 + m := by
                    have := HNX.out
                    by_cases hnM : n1 = M
                    · by_cases h3 : M < M + 1 + m
                      · right; exact h3
                      · left; simp; omega
                    · left; simp; omega
                  have e3 : (n1 < M) = False ∨ ((n1 : Int) < (M : Int) + 1 + (m : Int)) = False := by
                    rcases e1 with h1 | h1
                    · exact Or.inl h1
                    · rcases e2 with h2 | h2
                      · exact Or.inr h2
                      · exact absurd h2 h1
                  have E1 : Hid ((n1 < M) = False ∨ ¬ M < M + 1 + m) := Lib.hid e1
                  have E2 : Hid (((n1 : Int) < (M : Int) + 1 + (m : Int)) = False ∨ M < M + 1 + m) := Lib.hid e2
                  clear e1 e2 e3
                  first
                  | have e1 : (n1 < M) = False := E1.out.resolve_right (fun h => h HMN.out)
                    go_wp2_with (at_builtin; (refine wpList_push rfl (.tmp 43) (.tmp 46) 115 rfl Form.act ws.heap.size noB 122 i0 (.agg #[.int .i64 0, .int .i64 0]) 16 Try.underlying115 hi hz0 hz1 hz2 rfl (by decide) _ _ rfl (hownb.keep ((Below.refl _ _).alloc (Nat.le_refl _) _)) wr.heap.size 1 [.int .i64 2, .int .i64 (m : Int)] 122 (2, (m : Int)) rfl (Box.new _ _ _) (act_reads' _ _) (by omega) (by unfold maxLen; omega) (by have := hbt.size; simp; omega) _ rfl ?_))
                    intro g cap w' hown' hgrow hlies hgs
                    have hbn : Below ws.heap.size ws w' := Below.grown (Below.al hbt _) hgrow (by have := hbt.size; simp; omega) (fun k hk => (hownb.base_le k hk).1)
                    have HOWN := Lib.hid hown'
                    clear hown' hgrow hlies hgs
                    go_wp2
                    go_roundw
                    case rel => exact ⟨m + 1, _, rfl, hlt3, by go_num, (by rw [HST.out.2.1]; first | done | rfl | (congr 1; omega)), by rw [HXN.out]; exact HOWN.out, hbn⟩
                    case measure => simp [intOf]; omega
                  | have e1 : ((n1 : Int) < (M : Int) + 1 + (m : Int)) = False := E2.out.resolve_right (Nat.not_lt.2 HMN.out)
                    go_wp2_with (at_builtin; (refine wpList_push rfl (.tmp 43) (.tmp 46) 115 rfl Form.act ws.heap.size noB 122 i0 (.agg #[.int .i64 0, .int .i64 0]) 16 Try.underlying115 hi hz0 hz1 hz2 rfl (by decide) _ _ rfl (hownb.keep ((Below.refl _ _).alloc (Nat.le_refl _) _)) wr.heap.size 1 [.int .i64 2, .int .i64 (m : Int)] 122 (2, (m : Int)) rfl (Box.new _ _ _) (act_reads' _ _) (by omega) (by unfold maxLen; omega) (by have := hbt.size; simp; omega) _ rfl ?_))
                    intro g cap w' hown' hgrow hlies hgs
                    have hbn : Below ws.heap.size ws w' := Below.grown (Below.al hbt _) hgrow (by have := hbt.size; simp; omega) (fun k hk => (hownb.base_le k hk).1)
                    have HOWN := Lib.hid hown'
                    clear hown' hgrow hlies hgs
                    go_wp2
                    go_roundw
                    case rel => exact ⟨m + 1, _, rfl, hlt3, by go_num, (by rw [HST.out.2.1]; first | done | rfl | (congr 1; omega)), by rw [HXN.out]; exact HOWN.out, hbn⟩
                    case measure => simp [intOf]; omega
        · obtain rfl : M = m := by omega
          have hlen : (stageTo M M M).length = nxtA M M M + M := stageTo_length (Nat.le_refl _)
          have hnl := nxtA_le (f := M) (M := M) (m := M)
          obtain ⟨st, hst⟩ : ∃ st, stageTo M M M = st := ⟨_, rfl⟩
          rw [hst] at hown hlen
          have hstl : 1 ≤ st.length ∧ st.length ≤ 24 := by omega
          have HST := Lib.hid hst
          have hvo := hout.base_le
          have hcur := own_cells hown hstl.1
          obtain ⟨av, cv, bv, hv, hbv, hrow⟩ := hown.row (G := fun b => newB w.heap.size b ∧ vo.ownBlock ≠ some b) (fun b hb => hb.elim) (fun b hb => ⟨Nat.le_trans hbr.size hb, fun e => by have := (hvo b e).2; omega⟩)
          obtain rfl := hrow.ptr hstl.1
          subst hv
          have hbv' := hbv hstl.1
          have HCUR : Hid (∃ cur T, wr.heap[bv]? = some (.cells cur T (0, 0))) := Lib.hid (hcur bv rfl)
          clear hcur
          have HBL := Lib.hid (hrow.lt hstl.1)
          have hhl : hs.length = t := by
            have h1 := congrArg List.length hmap.out
            rw [List.length_map, List.length_take, aheadOf_length] at h1
            omega
          have HHL := Lib.hid hhl
          have hhl6 : hs.length ≤ 6 := by omega
          have hout2 := hout.keep hbs
          obtain ⟨sl, hsl⟩ : ∃ sl, st.length = sl := ⟨_, rfl⟩
          have HSL := Lib.hid hsl
          have hyr : Form.hdr.reads (wr.alloc (.cells #[.slice (some ⟨bv, 0, none⟩) sl cv] 115)) (fun b => newB w.heap.size b ∧ vo.ownBlock ≠ some b) [.slice (some ⟨bv, 0, none⟩) sl cv] ((bv, cv), st) := by
            rw [← hsl]
            exact ⟨rfl, hrow.alloc _, fun _ => by
              obtain ⟨cur, T, hc⟩ := HCUR.out
              exact ⟨cur, T, (Below.heap_alloc _ _ _ (hrow.lt hstl.1)).trans hc⟩⟩
          rw [hsl]
          clear hst hlen hhl hown hrow hbv hsl
          go_wp2_with (at_builtin; (refine wpList_push rfl (.tmp 49) (.tmp 51) 51 rfl Form.hdr w.heap.size (newB w.heap.size) 115 j0 (.slice none 0 0) 24 Try.underlying51 hj hy0 hy1 hy2 rfl (by decide) _ hs rfl (hout2.keep ((Below.refl _ _).alloc (Nat.le_refl _) _)) wr.heap.size 1 [.slice (some ⟨bv, 0, none⟩) sl cv] 115 ((bv, cv), st) rfl (Box.new _ _ _) hyr (by omega) (by unfold maxLen; omega) (by have := hbs.size; have := hbr.size; simp; omega) _ rfl ?_))
          intro g cap w' hown' hgrow hlies hgs
          have hbW : Below w.heap.size w w' := Below.grown (Below.al (hbr.trans (hbs.mono hbr.size)) _) hgrow (by have := hbs.size; have := hbr.size; simp; omega) (fun k hk => (hout2.base_le k hk).1)
          have hwl : bv < w'.heap.size := by
            have h1 := HBL.out
            have h6 := hgrow.size
            simp at h6
            omega
          have e9 : stageTo ((fun s => M) t) M M = st := by first | exact HST.out | (dsimp only; rw [HF.out]; exact HST.out)
          have HOWN := Lib.hid hown'
          have HRES : Hid ((hs ++ [((bv, cv), st)]).map (·.2) = (aheadOf S M (fun s => M)).take (t + 1) ∧ Rising (hs ++ [((bv, cv), st)]) ∧ ∀ y ∈ hs ++ [((bv, cv), st)], w.heap.size ≤ y.1.1 ∧ y.1.1 < w'.heap.size) := Lib.hid ⟨by
              rw [List.map_append, hmap.out, HAL.out t hlt2, e9]
              rfl, rising_snoc hris.out fun y hy => by
                have h1 := (hbds.out y hy).2
                show y.1.1 < bv
                omega, fun y hy => by
                rcases List.mem_append.1 hy with hy | hy
                · have h1 := hbds.out y hy
                  have h2 := hbs.size
                  have h3 := hgrow.size
                  simp at h3
                  omega
                · simp only [List.mem_singleton] at hy
                  rw [hy]
                  have := hbr.size
                  exact ⟨by dsimp only; omega, hwl⟩⟩
          clear hown' hgrow hlies hgs hyr hout2 hwl hvo e9
          go_wp2
          go_roundw
          case rel => exact ⟨t + 1, _, _, rfl, hlt2, by go_num, Lib.hid HRES.out.1, Lib.hid HRES.out.2.1, Lib.hid HRES.out.2.2, HOWN.out, hbW⟩
          case measure => simp [intOf]; omega
    · obtain rfl : S = t := by omega
      have hmp : hs.map (·.2) = aheadOf S M (fun s => M) := by rw [hmap.out]; exact List.take_of_length_le (by rw [aheadOf_length]; exact Nat.le_refl _)
      have hhl : hs.length = S := by
        have h1 := congrArg List.length hmp
        rw [List.length_map, aheadOf_length] at h1
        exact h1
      have hap := hdr_apart hout
      obtain ⟨a, cap, b, hv, hbb, hrow⟩ := hout.row (G := anyB) (fun _ _ _ => trivial) (fun _ _ => trivial)
      rw [hhl] at hv hbb hrow
      obtain rfl := hrow.ptr S1
      have HRES : Hid (hs.map (·.2) = aheadOf S M (fun s => M) ∧ Rising hs ∧ (∀ y ∈ hs, w.heap.size ≤ y.1.1 ∧ y.1.1 ≠ b) ∧ RowAt Form.hdr wr anyB (some ⟨b, 0, none⟩) S cap b 0 hs ∧ w.heap.size ≤ b) := Lib.hid ⟨hmp, hris.out, fun y hy => ⟨(hbds.out y hy).1, fun e => by
        have h1 := (hap y hy (by
          have h2 : y.2 ∈ aheadOf S M (fun s => M) := by rw [← hmp]; exact List.mem_map.2 ⟨y, hy, rfl⟩
          exact aheadOf_pos M1 _ h2)).1
        rw [hv] at h1
        exact h1 (by rw [e]; rfl)⟩, hrow, hbb S1⟩
      have HV := Lib.hid hv
      clear hmp hhl hap hbb hrow hv hout
      go_wp2
      go_ret2
      exact ⟨_, cap, b, hs, by rw [HV.out]; rfl, HRES.out.1, HRES.out.2.1, HRES.out.2.2.1, HRES.out.2.2.2.1, HRES.out.2.2.2.2, hbr⟩
theorem aheadTurns_ok (S M : Nat) (q : Nat) (T : TypeId) (w : World) (hq : Box w q [.int .i64 S] T) (hS : 1 ≤ S ∧ S ≤ 6) (hM : 1 ≤ M ∧ M ≤ 12) :
    Calls Try.prog 46 #[.int .i64 S, .int .i64 M, .func (.func 47) #[] #[.pointer (some ⟨q, 0, none⟩)]] w fun e w' => ∃ a k b hs, e = .returned (.tuple #[.slice a S k, .nilIface]) ∧ hs.map (·.2) = aheadOf S M (fun s => S - 1 - s) ∧ Rising hs ∧ (∀ y ∈ hs, w.heap.size ≤ y.1.1 ∧ y.1.1 ≠ b) ∧ RowAt Form.hdr w' anyB a S k b 0 hs ∧ w.heap.size ≤ b ∧ Below w.heap.size w w' := by
  obtain ⟨i0, hi, hz0, hz1, hz2⟩ := info_parts info_act
  obtain ⟨j0, hj, hy0, hy1, hy2⟩ := info_parts info_acts
  obtain ⟨S1, S2⟩ := hS
  obtain ⟨M1, M2⟩ := hM
  have hlt := hq.lt
  have HAL : Hid (∀ t, t < S → (aheadOf S M (fun s => S - 1 - s)).take (t + 1) = (aheadOf S M (fun s => S - 1 - s)).take t ++ [stageTo ((fun s => S - 1 - s) t) M M]) := Lib.hid fun t ht => by
    rw [List.take_succ_eq_append_getElem (by rw [aheadOf_length]; exact ht)]
    simp [aheadOf]
  go_enter Try.func46, Try.ntmps46
  go_wp2_with fail
  refine (planFits_any S M w).mono ?_
  rintro e w1 ⟨rfl, rfl⟩
  rw [decide_eq_true (by omega : (1 ≤ (S : Int) ∧ (S : Int) ≤ 6) ∧ 1 ≤ (M : Int) ∧ (M : Int) ≤ 12)]
  go_wp2
  go_loopw [8, 19] (fun v i wr => ∃ (t : Nat) (hs : List RowD) (v0 : Value), v0 = v ∧ t ≤ S ∧ i = .int .i64 t ∧ Hid (hs.map (·.2) = (aheadOf S M (fun s => S - 1 - s)).take t) ∧ Hid (Rising hs) ∧ Hid (∀ y ∈ hs, w.heap.size ≤ y.1.1 ∧ y.1.1 < wr.heap.size) ∧ OwnRow Form.hdr 115 wr w.heap.size (newB w.heap.size) v0 hs ∧ Below w.heap.size w wr) (fun _ i _ => S - (intOf i).toNat)
  case atStart => exact ⟨0, [], _, rfl, Nat.zero_le _, rfl, Lib.hid rfl, Lib.hid List.Pairwise.nil, Lib.hid (fun y hy => absurd hy List.not_mem_nil), OwnRow.nil _ _ _ _ _, Below.x0⟩
  case round =>
    obtain ⟨t, hs, vo, rfl, ht, rfl, hmap, hris, hbds, hout, hbr⟩ := hrel
    by_cases hlt2 : t < S
    · obtain ⟨ws, rfl⟩ : ∃ ws : World, ws = wr := ⟨_, rfl⟩
      obtain ⟨f, hf0⟩ : ∃ f, S - 1 - t = f := ⟨_, rfl⟩
      have hfM : f ≤ 12 := by omega
      have HF : Hid ((fun s => S - 1 - s) t = f) := Lib.hid (by first | rfl | exact hf0)
      have HFI : Hid (((S - 1 - t : Nat) : Int) = (f : Int)) := Lib.hid (by first | rfl | (rw [hf0]))
      try clear hf0
      go_wp2
      go_loopw [10, 11, 23] (fun v x i wr => ∃ (m : Nat) (v1 : Value), v1 = v ∧ m ≤ M ∧ i = .int .i64 m ∧ x = .int .i64 (nxtA f M m) ∧ OwnRow Form.act 122 wr ws.heap.size noB v1 (stageTo f M m) ∧ Below ws.heap.size ws wr) (fun _ _ i _ => M - (intOf i).toNat)
      case atStart => exact ⟨0, _, rfl, Nat.zero_le _, rfl, rfl, OwnRow.nil _ _ _ _ _, Below.x0⟩
      case round =>
        obtain ⟨m, va, rfl, hm, rfl, rfl, hown, hbs⟩ := hrel
        by_cases hlt3 : m < M
        · obtain ⟨wt, rfl⟩ : ∃ wt : World, wt = wr := ⟨_, rfl⟩
          have hmono := nxtA_mono (f := f) hlt3
          have hnle := nxtA_le (f := f) (M := M) (m := m + 1)
          have hnx : ((nxtA f M (m + 1) : Nat) : Int) = min ((f : Int) + 1 + (m : Int)) (M : Int) := by rw [nxtA_next]; omega
          have HNX := Lib.hid hnx
          obtain ⟨n0, hn0⟩ : ∃ n0, nxtA f M m = n0 := ⟨_, rfl⟩
          obtain ⟨n1, hn1⟩ : ∃ n1, nxtA f M (m + 1) = n1 := ⟨_, rfl⟩
          rw [hn0, hn1] at hmono
          rw [hn1] at hnle HNX
          rw [hn0]
          have HST : Hid (stageTo f M (m + 1) = stageTo f M m ++ fwdL n0 n1 ++ [(2, (m : Int))] ∧ nxtA f M (m + 1) = n1 ∧ (stageTo f M m).length + n1 ≤ 100) := Lib.hid ⟨by rw [stageTo, hn0, hn1], hn1, by rw [stageTo_length hm, hn0]; omega⟩
          clear hnx hn0 hn1
          go_wp2
          go_loopw [10, 11] (fun v x wr => ∃ (c : Nat) (v2 : Value), v2 = v ∧ n0 ≤ c ∧ c ≤ n1 ∧ x = .int .i64 c ∧ OwnRow Form.act 122 wr ws.heap.size noB v2 (stageTo f M m ++ fwdL n0 c) ∧ Below ws.heap.size ws wr) (fun _ x _ => n1 - (intOf x).toNat)
          case atStart => exact ⟨n0, _, rfl, Nat.le_refl _, hmono, rfl, by rw [fwdL_nil, List.append_nil]; exact hown, hbs⟩
          case round =>
            obtain ⟨c, vb, rfl, hc0, hc1, rfl, hownb, hbt⟩ := hrel
            have hbw : Below w.heap.size w wr := hbr.trans (hbt.mono hbr.size)
            have hqr := hq.keep hbw
            go_wp2_with fail
            refine (turns1_any t S q T _ hqr hlt2 S2).mono ?_
            rintro e wc ⟨rfl, rfl⟩
            rw [HFI.out]
            rcases Nat.lt_or_ge M (f + 1 + m) with hmn | hmn
            · have hmnI : (M : Int) < (f : Int) + 1 + (m : Int) := by omega
              have HMN := Lib.hid hmn
              clear hmn
              obtain ⟨xs, hxs⟩ : ∃ xs, stageTo f M m ++ fwdL n0 c = xs := ⟨_, rfl⟩
              rw [hxs] at hownb
              have hlenb : xs.length ≤ 200 := by
                have h1 := HST.out.2.2
                rw [← hxs, List.length_append]
                have h2 : (fwdL n0 c).length = c - n0 := by simp [fwdL]
                omega
              have HXS := Lib.hid hxs
              clear hxs
              by_cases hlt4 : c < n1
              · have e1 : (c : Int) < (f : Int) + 1 + (m : Int) := by have := HNX.out; omega
                have e2 : c < M := by omega
                have HXN : Hid (stageTo f M m ++ fwdL n0 (c + 1) = xs ++ [(1, (c : Int))]) := Lib.hid (by rw [fwdL_snoc hc0, ← List.append_assoc, HXS.out])
                go_wp2_with (at_builtin; (refine wpList_push rfl (.tmp 36) (.tmp 39) 115 rfl Form.act ws.heap.size noB 122 i0 (.agg #[.int .i64 0, .int .i64 0]) 16 Try.underlying115 hi hz0 hz1 hz2 rfl (by decide) _ _ rfl (hownb.keep ((Below.refl _ _).alloc (Nat.le_refl _) _)) wr.heap.size 1 [.int .i64 1, .int .i64 (c : Int)] 122 (1, (c : Int)) rfl (Box.new _ _ _) (act_reads' _ _) (by omega) (by unfold maxLen; omega) (by have := hbt.size; simp; omega) _ rfl ?_))
                intro g cap w' hown' hgrow hlies hgs
                have hbn : Below ws.heap.size ws w' := Below.grown (Below.al hbt _) hgrow (by have := hbt.size; simp; omega) (fun k hk => (hownb.base_le k hk).1)
                have HOWN := Lib.hid hown'
                clear hown' hgrow hlies hgs
                go_wp2
                go_roundw
                case rel => exact ⟨c + 1, _, rfl, by omega, hlt4, by go_num, by rw [HXN.out]; exact HOWN.out, hbn⟩
                case measure => simp [intOf]; omega
              · obtain rfl : n1 = c := by omega
                have HXN : Hid (stageTo f M (m + 1) = xs ++ [(2, (m : Int))]) := Lib.hid (by rw [HST.out.1, HXS.out])
                have e1 : (n1 < M) = False ∨ ¬ M < f + 1 + m := by
                  have := HNX.out
                  by_cases hnM : n1 = M
                  · left; simp; omega
                  · right; omega
                have e2 : ((n1 : Int) < (f : Int) + 1 + (m : Int)) = False ∨ M < f + 1 + m := by
                  have := HNX.out
                  by_cases hnM : n1 = M
                  · by_cases h3 : M < f + 1 + m
                    · right; exact h3
                    · left; simp; omega
                  · left; simp; omega
                have e3 : (n1 < M) = False ∨ ((n1 : Int) < (f : Int) + 1 + (m : Int)) = False := by
                  rcases e1 with h1 | h1
                  · exact Or.inl h1
                  · rcases e2 with h2 | h2
                    · exact Or.inr h2
                    · exact absurd h2 h1
                have E1 : Hid ((n1 < M) = False ∨ ¬ M < f + 1 + m) := Lib.hid e1
                have E2 : Hid (((n1 : Int) < (f : Int) + 1 + (m : Int)) = False ∨ M < f + 1 + m) := Lib.hid e2
                clear e1 e2 e3
                first
                | have e1 : (n1 < M) = False := E1.out.resolve_right (fun h => h HMN.out)
                  go_wp2_with (at_builtin; (refine wpList_push rfl (.tmp 43) (.tmp 46) 115 rfl Form.act ws.heap.size noB 122 i0 (.agg #[.int .i64 0, .int .i64 0]) 16 Try.underlying115 hi hz0 hz1 hz2 rfl (by decide) _ _ rfl (hownb.keep ((Below.refl _ _).alloc (Nat.le_refl _) _)) wr.heap.size 1 [.int .i64 2, .int .i64 (m : Int)] 122 (2, (m : Int)) rfl (Box.new _ _ _) (act_reads' _ _) (by omega) (by unfold maxLen; omega) (by have := hbt.size; simp; omega) _ rfl ?_))
                  intro g cap w' hown' hgrow hlies hgs
                  have hbn : Below ws.heap.size ws w' := Below.grown (Below.al hbt _) hgrow (by have := hbt.size; simp; omega) (fun k hk => (hownb.base_le k hk).1)
                  have HOWN := Lib.hid hown'
                  clear hown' hgrow hlies hgs
                  go_wp2
                  go_roundw
                  case rel => exact ⟨m + 1, _, rfl, hlt3, by go_num, (by rw [HST.out.2.1]; first | done | rfl | (congr 1; omega)), by rw [HXN.out]; exact HOWN.out, hbn⟩
                  case measure => simp [intOf]; omega
                | have e1 : ((n1 : Int) < (f : Int) + 1 + (m : Int)) = False := E2.out.resolve_right (Nat.not_lt.2 HMN.out)
                  go_wp2_with (at_builtin; (refine wpList_push rfl (.tmp 43) (.tmp 46) 115 rfl Form.act ws.heap.size noB 122 i0 (.agg #[.int .i64 0, .int .i64 0]) 16 Try.underlying115 hi hz0 hz1 hz2 rfl (by decide) _ _ rfl (hownb.keep ((Below.refl _ _).alloc (Nat.le_refl _) _)) wr.heap.size 1 [.int .i64 2, .int .i64 (m : Int)] 122 (2, (m : Int)) rfl (Box.new _ _ _) (act_reads' _ _) (by omega) (by unfold maxLen; omega) (by have := hbt.size; simp; omega) _ rfl ?_))
                  intro g cap w' hown' hgrow hlies hgs
                  have hbn : Below ws.heap.size ws w' := Below.grown (Below.al hbt _) hgrow (by have := hbt.size; simp; omega) (fun k hk => (hownb.base_le k hk).1)
                  have HOWN := Lib.hid hown'
                  clear hown' hgrow hlies hgs
                  go_wp2
                  go_roundw
                  case rel => exact ⟨m + 1, _, rfl, hlt3, by go_num, (by rw [HST.out.2.1]; first | done | rfl | (congr 1; omega)), by rw [HXN.out]; exact HOWN.out, hbn⟩
                  case measure => simp [intOf]; omega
            · first
              | exfalso
                omega
              | skip
                have hmnI : ((M : Int) < (f : Int) + 1 + (m : Int)) = False := by simp; omega
                have HMN := Lib.hid hmn
                clear hmn
                obtain ⟨xs, hxs⟩ : ∃ xs, stageTo f M m ++ fwdL n0 c = xs := ⟨_, rfl⟩
                rw [hxs] at hownb
                have hlenb : xs.length ≤ 200 := by
                  have h1 := HST.out.2.2
                  rw [← hxs, List.length_append]
                  have h2 : (fwdL n0 c).length = c - n0 := by simp [fwdL]
                  omega
                have HXS := Lib.hid hxs
                clear hxs
                by_cases hlt4 : c < n1
                · have e1 : (c : Int) < (f : Int) + 1 + (m : Int) := by have := HNX.out; omega
                  have e2 : c < M := by omega
                  have HXN : Hid (stageTo f M m ++ fwdL n0 (c + 1) = xs ++ [(1, (c : Int))]) := Lib.hid (by rw [fwdL_snoc hc0, ← List.append_assoc, HXS.out])
                  go_wp2_with (at_builtin; (refine wpList_push rfl (.tmp 36) (.tmp 39) 115 rfl Form.act ws.heap.size noB 122 i0 (.agg #[.int .i64 0, .int .i64 0]) 16 Try.underlying115 hi hz0 hz1 hz2 rfl (by decide) _ _ rfl (hownb.keep ((Below.refl _ _).alloc (Nat.le_refl _) _)) wr.heap.size 1 [.int .i64 1, .int .i64 (c : Int)] 122 (1, (c : Int)) rfl (Box.new _ _ _) (act_reads' _ _) (by omega) (by unfold maxLen; omega) (by have := hbt.size; simp; omega) _ rfl ?_))
                  intro g cap w' hown' hgrow hlies hgs
                  have hbn : Below ws.heap.size ws w' := Below.grown (Below.al hbt _) hgrow (by have := hbt.size; simp; omega) (fun k hk => (hownb.base_le k hk).1)
                  have HOWN := Lib.hid hown'
                  clear hown' hgrow hlies hgs
                  go_wp2
                  go_roundw
                  case rel => exact ⟨c + 1, _, rfl, by omega, hlt4, by go_num, by rw [HXN.out]; exact HOWN.out, hbn⟩
                  case measure => simp [intOf]; omega
                · obtain rfl : n1 = c := by omega
                  have HXN : Hid (stageTo f M (m + 1) = xs ++ [(2, (m : Int))]) := Lib.hid (by rw [HST.out.1, HXS.out])
                  have e1 : (n1 < M) = False ∨ ¬ M < f + 1 + m := by
                    have := HNX.out
                    by_cases hnM : n1 = M
                    · left; simp; omega
                    · right; omega
                  have e2 : ((n1 : Int) < (f : Int) + 1 + (m : Int)) = False ∨ M < f + 1 + m := by
                    have := HNX.out
                    by_cases hnM : n1 = M
                    · by_cases h3 : M < f + 1 + m
                      · right; exact h3
                      · left; simp; omega
                    · left; simp; omega
                  have e3 : (n1 < M) = False ∨ ((n1 : Int) < (f : Int) + 1 + (m : Int)) = False := by
                    rcases e1 with h1 | h1
                    · exact Or.inl h1
                    · rcases e2 with h2 | h2
                      · exact Or.inr h2
                      · exact absurd h2 h1
                  have E1 : Hid ((n1 < M) = False ∨ ¬ M < f + 1 + m) := Lib.hid e1
                  have E2 : Hid (((n1 : Int) < (f : Int) + 1 + (m : Int)) = False ∨ M < f + 1 + m) := Lib.hid e2
                  clear e1 e2 e3
                  first
                  | have e1 : (n1 < M) = False := E1.out.resolve_right (fun h => h HMN.out)
                    go_wp2_with (at_builtin; (refine wpList_push rfl (.tmp 43) (.tmp 46) 115 rfl Form.act ws.heap.size noB 122 i0 (.agg #[.int .i64 0, .int .i64 0]) 16 Try.underlying115 hi hz0 hz1 hz2 rfl (by decide) _ _ rfl (hownb.keep ((Below.refl _ _).alloc (Nat.le_refl _) _)) wr.heap.size 1 [.int .i64 2, .int .i64 (m : Int)] 122 (2, (m : Int)) rfl (Box.new _ _ _) (act_reads' _ _) (by omega) (by unfold maxLen; omega) (by have := hbt.size; simp; omega) _ rfl ?_))
                    intro g cap w' hown' hgrow hlies hgs
                    have hbn : Below ws.heap.size ws w' := Below.grown (Below.al hbt _) hgrow (by have := hbt.size; simp; omega) (fun k hk => (hownb.base_le k hk).1)
                    have HOWN := Lib.hid hown'
                    clear hown' hgrow hlies hgs
                    go_wp2
                    go_roundw
                    case rel => exact ⟨m + 1, _, rfl, hlt3, by go_num, (by rw [HST.out.2.1]; first | done | rfl | (congr 1; omega)), by rw [HXN.out]; exact HOWN.out, hbn⟩
                    case measure => simp [intOf]; omega
                  | have e1 : ((n1 : Int) < (f : Int) + 1 + (m : Int)) = False := E2.out.resolve_right (Nat.not_lt.2 HMN.out)
                    go_wp2_with (at_builtin; (refine wpList_push rfl (.tmp 43) (.tmp 46) 115 rfl Form.act ws.heap.size noB 122 i0 (.agg #[.int .i64 0, .int .i64 0]) 16 Try.underlying115 hi hz0 hz1 hz2 rfl (by decide) _ _ rfl (hownb.keep ((Below.refl _ _).alloc (Nat.le_refl _) _)) wr.heap.size 1 [.int .i64 2, .int .i64 (m : Int)] 122 (2, (m : Int)) rfl (Box.new _ _ _) (act_reads' _ _) (by omega) (by unfold maxLen; omega) (by have := hbt.size; simp; omega) _ rfl ?_))
                    intro g cap w' hown' hgrow hlies hgs
                    have hbn : Below ws.heap.size ws w' := Below.grown (Below.al hbt _) hgrow (by have := hbt.size; simp; omega) (fun k hk => (hownb.base_le k hk).1)
                    have HOWN := Lib.hid hown'
                    clear hown' hgrow hlies hgs
                    go_wp2
                    go_roundw
                    case rel => exact ⟨m + 1, _, rfl, hlt3, by go_num, (by rw [HST.out.2.1]; first | done | rfl | (congr 1; omega)), by rw [HXN.out]; exact HOWN.out, hbn⟩
                    case measure => simp [intOf]; omega
        · obtain rfl : M = m := by omega
          have hlen : (stageTo f M M).length = nxtA f M M + M := stageTo_length (Nat.le_refl _)
          have hnl := nxtA_le (f := f) (M := M) (m := M)
          obtain ⟨st, hst⟩ : ∃ st, stageTo f M M = st := ⟨_, rfl⟩
          rw [hst] at hown hlen
          have hstl : 1 ≤ st.length ∧ st.length ≤ 24 := by omega
          have HST := Lib.hid hst
          have hvo := hout.base_le
          have hcur := own_cells hown hstl.1
          obtain ⟨av, cv, bv, hv, hbv, hrow⟩ := hown.row (G := fun b => newB w.heap.size b ∧ vo.ownBlock ≠ some b) (fun b hb => hb.elim) (fun b hb => ⟨Nat.le_trans hbr.size hb, fun e => by have := (hvo b e).2; omega⟩)
          obtain rfl := hrow.ptr hstl.1
          subst hv
          have hbv' := hbv hstl.1
          have HCUR : Hid (∃ cur T, wr.heap[bv]? = some (.cells cur T (0, 0))) := Lib.hid (hcur bv rfl)
          clear hcur
          have HBL := Lib.hid (hrow.lt hstl.1)
          have hhl : hs.length = t := by
            have h1 := congrArg List.length hmap.out
            rw [List.length_map, List.length_take, aheadOf_length] at h1
            omega
          have HHL := Lib.hid hhl
          have hhl6 : hs.length ≤ 6 := by omega
          have hout2 := hout.keep hbs
          obtain ⟨sl, hsl⟩ : ∃ sl, st.length = sl := ⟨_, rfl⟩
          have HSL := Lib.hid hsl
          have hyr : Form.hdr.reads (wr.alloc (.cells #[.slice (some ⟨bv, 0, none⟩) sl cv] 115)) (fun b => newB w.heap.size b ∧ vo.ownBlock ≠ some b) [.slice (some ⟨bv, 0, none⟩) sl cv] ((bv, cv), st) := by
            rw [← hsl]
            exact ⟨rfl, hrow.alloc _, fun _ => by
              obtain ⟨cur, T, hc⟩ := HCUR.out
              exact ⟨cur, T, (Below.heap_alloc _ _ _ (hrow.lt hstl.1)).trans hc⟩⟩
          rw [hsl]
          clear hst hlen hhl hown hrow hbv hsl
          go_wp2_with (at_builtin; (refine wpList_push rfl (.tmp 49) (.tmp 51) 51 rfl Form.hdr w.heap.size (newB w.heap.size) 115 j0 (.slice none 0 0) 24 Try.underlying51 hj hy0 hy1 hy2 rfl (by decide) _ hs rfl (hout2.keep ((Below.refl _ _).alloc (Nat.le_refl _) _)) wr.heap.size 1 [.slice (some ⟨bv, 0, none⟩) sl cv] 115 ((bv, cv), st) rfl (Box.new _ _ _) hyr (by omega) (by unfold maxLen; omega) (by have := hbs.size; have := hbr.size; simp; omega) _ rfl ?_))
          intro g cap w' hown' hgrow hlies hgs
          have hbW : Below w.heap.size w w' := Below.grown (Below.al (hbr.trans (hbs.mono hbr.size)) _) hgrow (by have := hbs.size; have := hbr.size; simp; omega) (fun k hk => (hout2.base_le k hk).1)
          have hwl : bv < w'.heap.size := by
            have h1 := HBL.out
            have h6 := hgrow.size
            simp at h6
            omega
          have e9 : stageTo ((fun s => S - 1 - s) t) M M = st := by first | exact HST.out | (dsimp only; rw [HF.out]; exact HST.out)
          have HOWN := Lib.hid hown'
          have HRES : Hid ((hs ++ [((bv, cv), st)]).map (·.2) = (aheadOf S M (fun s => S - 1 - s)).take (t + 1) ∧ Rising (hs ++ [((bv, cv), st)]) ∧ ∀ y ∈ hs ++ [((bv, cv), st)], w.heap.size ≤ y.1.1 ∧ y.1.1 < w'.heap.size) := Lib.hid ⟨by
              rw [List.map_append, hmap.out, HAL.out t hlt2, e9]
              rfl, rising_snoc hris.out fun y hy => by
                have h1 := (hbds.out y hy).2
                show y.1.1 < bv
                omega, fun y hy => by
                rcases List.mem_append.1 hy with hy | hy
                · have h1 := hbds.out y hy
                  have h2 := hbs.size
                  have h3 := hgrow.size
                  simp at h3
                  omega
                · simp only [List.mem_singleton] at hy
                  rw [hy]
                  have := hbr.size
                  exact ⟨by dsimp only; omega, hwl⟩⟩
          clear hown' hgrow hlies hgs hyr hout2 hwl hvo e9
          go_wp2
          go_roundw
          case rel => exact ⟨t + 1, _, _, rfl, hlt2, by go_num, Lib.hid HRES.out.1, Lib.hid HRES.out.2.1, Lib.hid HRES.out.2.2, HOWN.out, hbW⟩
          case measure => simp [intOf]; omega
    · obtain rfl : S = t := by omega
      have hmp : hs.map (·.2) = aheadOf S M (fun s => S - 1 - s) := by rw [hmap.out]; exact List.take_of_length_le (by rw [aheadOf_length]; exact Nat.le_refl _)
      have hhl : hs.length = S := by
        have h1 := congrArg List.length hmp
        rw [List.length_map, aheadOf_length] at h1
        exact h1
      have hap := hdr_apart hout
      obtain ⟨a, cap, b, hv, hbb, hrow⟩ := hout.row (G := anyB) (fun _ _ _ => trivial) (fun _ _ => trivial)
      rw [hhl] at hv hbb hrow
      obtain rfl := hrow.ptr S1
      have HRES : Hid (hs.map (·.2) = aheadOf S M (fun s => S - 1 - s) ∧ Rising hs ∧ (∀ y ∈ hs, w.heap.size ≤ y.1.1 ∧ y.1.1 ≠ b) ∧ RowAt Form.hdr wr anyB (some ⟨b, 0, none⟩) S cap b 0 hs ∧ w.heap.size ≤ b) := Lib.hid ⟨hmp, hris.out, fun y hy => ⟨(hbds.out y hy).1, fun e => by
        have h1 := (hap y hy (by
          have h2 : y.2 ∈ aheadOf S M (fun s => S - 1 - s) := by rw [← hmp]; exact List.mem_map.2 ⟨y, hy, rfl⟩
          exact aheadOf_pos M1 _ h2)).1
        rw [hv] at h1
        exact h1 (by rw [e]; rfl)⟩, hrow, hbb S1⟩
      have HV := Lib.hid hv
      clear hmp hhl hap hbb hrow hv hout
      go_wp2
      go_ret2
      exact ⟨_, cap, b, hs, by rw [HV.out]; rfl, HRES.out.1, HRES.out.2.1, HRES.out.2.2.1, HRES.out.2.2.2.1, HRES.out.2.2.2.2, hbr⟩
end Go.Proofs.Ytchngeagnlngaaa
end
