/- CutTells: of any cuts what is wrong, what each stage costs, and the best ones are the document's: the law returns true, and the input reads as it did. No condition. -/
import Derived.Test.YtjaepdkeldgikaaDoorCards
import Derived.Test.YtjaepdkeldgikaaDoorTie
import Derived.Test.YtjaepdkeldgikaaDoorRCut3
import Derived.Test.YtjaepdkeldgikaaDoorOpenI
import Derived.Test.YtjaepdkeldgikaaDoorSameI
import Derived.Test.YtjaepdkeldgikaaDoorTold
import Derived.Deep.DeepHandedRow
set_option linter.unusedVariables false
set_option linter.unusedSimpArgs false
set_option linter.unusedSectionVars false
namespace Gal
theorem none_ints (w : Go.World) : IntsAt w none 0 0 0 0 [] :=
  ⟨rfl, Nat.le_refl _, Nat.zero_le _, fun h => absurd h (Nat.lt_irrefl _), fun h => absurd h (Nat.lt_irrefl _), fun i hi => absurd hi (Nat.not_lt_zero _)⟩
theorem best_pick {c : Nat → Int} {n s : Nat} (hc : ∀ i, 0 ≤ c i) (h1 : 1 ≤ s) (h2 : s ≤ n) : picks c n (lim c n s) s 0 = (refBest c n (s - 1) 0 0).1 ∧ (lim c n s : Int) = (refBest c n (s - 1) 0 0).2 := by
  obtain ⟨r, rfl⟩ : ∃ r, s = r + 1 := ⟨s - 1, by omega⟩
  have hl := lim_is (c := c) hc h2
  obtain ⟨_, _, _, b4⟩ := best_is (c := c) hc h2
  rw [← hl] at b4
  exact ⟨b4, hl⟩
theorem best_fault {xs : List Int} {st : Int} {n : Nat} (hl : xs.length = n) : bestFault xs st = if (st < 1 ∨ 6 < st) ∨ (n < 1 ∨ 12 < n) then 1 else if costsFault xs ≠ 0 then costsFault xs else if (n : Int) < st then 2 else 0 := by unfold bestFault; rw [hl]
end Gal
namespace Go.Proofs.YtjaepdkeldgikaaDoor.lawCutTells
open Go.ChangeShapes Go.WideShapes Go.ChangeAt Go.RowKit Gal
set_option maxRecDepth 100000
set_option maxHeartbeats 8000000
theorem best_ok2 (xs : List Int) (s : Nat) (a : Option Addr) (n k b o : Nat) (w : World) (h : IntsAt w a n k b o xs) (hx : costsFault xs = 0) (hn : 1 ≤ n ∧ n ≤ 12) (hs : 1 ≤ s ∧ s ≤ 6) (hsn : s ≤ n) (R : List Nat × Int) (hR : refBest (ix xs) n (s - 1) 0 0 = R) :
    Calls Tryd.prog 26 #[.slice a n k, .int .i64 s] w fun e w' => ∃ a' k' b', e = .returned (.tuple #[.slice a' s k', .int .i64 R.2, .nilIface]) ∧ w.heap.size ≤ b' ∧ IntsAt w' a' s k' b' 0 (ints R.1) ∧ Below w.heap.size w w' := by
  obtain ⟨h1, h2⟩ := best_pick (c := ix xs) (n := n) (s := s) (fun i => (costs_bd hx i).1) hs.1 hsn
  rw [hR] at h1 h2
  rw [← h1, ← h2]
  exact (cutBest_ok xs s a n k b o w h hx hn hs hsn).mono fun e w' ⟨v, a', k', b', h1, h2, h3⟩ => ⟨a', k', b', by rw [h1, h2], h3⟩
theorem walk (xs : List Int) (va : Value) (ys : List Int) (vb : Value) (st : Int) (w : World) (ha : IntsV w va xs) (hb : IntsV w vb ys) (hst : (Lit.int IntKind.i64 st).wf = true) (hh : Handle w) :
    Calls Tryd.prog 6 #[va, vb, .int .i64 st] w fun e w' => e = .returned (.bool true) ∧ Below w.heap.size w w' := by
  obtain ⟨a, n, k, b, o, rfl, h⟩ := ha
  obtain ⟨a', n', k', b', o', rfl, h'⟩ := hb
  have HLN := Lib.hid h.len
  clear hst
  obtain ⟨E, hE⟩ : ∃ E, endsFault ys n = E := ⟨_, rfl⟩
  have HE := Lib.hid hE
  clear hE
  go_enter Tryd.func6, Tryd.ntmps6
  go_wp2_with fail
  refine (cutCheck_any ys n _ n' k' b' o' _ h').mono ?_
  rintro e w1 ⟨rfl, rfl⟩
  rw [HE.out]
  go_wp2_with fail
  refine (refEnds_any ys n _ n' k' b' o' _ h').mono ?_
  rintro e w2 ⟨rfl, m2, rfl⟩
  rw [HE.out]
  go_wp2_with fail
  refine (error_any E E _ (hh.keep ((by repeat (first | fail | (with_reducible exact Below.refl _ _) | (with_reducible refine Below.al ?_ _) | (with_reducible refine Below.drN ?_ _) | (with_reducible refine Below.drew ?_) | (with_reducible refine Below.st ?_ ?_ _; rotate_left 1; (first | (dsimp only; omega) | omega | (simp; omega) | simp)) | exact Below.refl _ _)) : Below w.heap.size w (w.drewN m2)))).mono ?_
  rintro e wz ⟨rfl, hb3⟩
  rw [decide_eq_true rfl]
  have hbz : Below w.heap.size w wz := (by repeat (first | fail | (with_reducible exact Below.refl _ _) | (with_reducible refine Below.al ?_ _) | (with_reducible refine Below.drN ?_ _) | (with_reducible refine Below.drew ?_) | (with_reducible refine Below.st ?_ ?_ _; rotate_left 1; (first | (dsimp only; omega) | omega | (simp; omega) | simp)) | (with_reducible refine Below.go ?_ hb3) | exact Below.refl _ _))
  replace h := h.keep hbz
  replace h' := h'.keep hbz
  replace hh := hh.keep hbz
  clear hb3
  rcases costsFault_or xs with hC | hC
  · have HC := Lib.hid hC
    clear hC
    by_cases hE0 : E = 0
    · subst hE0
      obtain ⟨es, y1, y2, y3, y4⟩ := ends_chain HE.out
      have hlen : es.length = n' := by rw [← h'.len, y1, ints_length]
      have hcs := costs_chain (c := ix xs) y2
      rw [hlen, ← y1] at hcs
      have HCS := Lib.hid hcs
      have HY1 := Lib.hid y1
      have HY2 := Lib.hid y2
      have hn12 : n ≤ 12 := by
        have := HE.out
        unfold endsFault at this
        by_cases g1 : (n : Int) < 1 ∨ 12 < (n : Int)
        · rw [if_pos g1] at this; exact absurd this (by decide)
        · omega
      clear y1 y2 y3 y4 hlen hcs
      go_wp2_with fail
      refine (cutCost_ok xs ys _ _ n n' k k' b b' o o' _ h h' HC.out HE.out).mono ?_
      rintro e wy ⟨q, rfl, hq, Bq, hby⟩
      rw [HCS.out] at Bq
      replace h := h.keep hby
      replace h' := h'.keep hby
      replace hh := hh.keep hby
      replace hbz : Below w.heap.size w wy := (by repeat (first | fail | (with_reducible exact Below.refl _ _) | (with_reducible exact hbz) | (with_reducible refine Below.al ?_ _) | (with_reducible refine Below.drN ?_ _) | (with_reducible refine Below.drew ?_) | (with_reducible refine Below.st ?_ ?_ _; rotate_left 1; (first | (dsimp only; omega) | omega | (simp; omega) | simp)) | (with_reducible refine Below.go ?_ hby) | exact Below.refl _ _ | exact hbz))
      clear hby hq
      go_wp2_with fail
      refine (refCosts_any xs _ n k b o _ h).mono ?_
      rintro e wv ⟨rfl, rfl⟩
      rw [HC.out]
      go_wp2_with fail
      refine (refCostOf_ok xs es _ _ n n' k k' b b' o o' _ h (by rw [← HY1.out]; exact h') (costs_bd HC.out) hn12 HY2.out).mono ?_
      rintro e wx ⟨a2, k2, b2, rfl, _, hi2, hbx⟩
      have hlq : (costsOf (ix xs) 0 es).length = n' := hi2.len
      have hi1 : IntsAt wx (some ⟨q, 0, none⟩) n' n' q 0 (costsOf (ix xs) 0 es) := by
        have Bq' := Bq.keep hbx
        exact ⟨hlq, Nat.le_refl _, h'.max, fun _ => rfl, fun _ => Bq'.lt, fun i hi => by rw [Nat.zero_add]; exact Bq'.icell (by omega)⟩
      replace h := h.keep hbx
      replace hh := hh.keep hbx
      replace hbz : Below w.heap.size w wx := (by repeat (first | fail | (with_reducible exact Below.refl _ _) | (with_reducible exact hbz) | (with_reducible refine Below.al ?_ _) | (with_reducible refine Below.drN ?_ _) | (with_reducible refine Below.drew ?_) | (with_reducible refine Below.st ?_ ?_ _; rotate_left 1; (first | (dsimp only; omega) | omega | (simp; omega) | simp)) | (with_reducible refine Below.go ?_ hbx) | exact Below.refl _ _ | exact hbz))
      clear hbx Bq hlq h'
      go_wp2_with fail
      refine (error_any 0 0 _ hh).mono ?_
      rintro e wt ⟨rfl, hbt⟩
      rw [decide_eq_true rfl]
      replace hi1 := hi1.keep hbt
      replace hi2 := hi2.keep hbt
      replace h := h.keep hbt
      replace hh := hh.keep hbt
      replace hbz : Below w.heap.size w wt := (by repeat (first | fail | (with_reducible exact Below.refl _ _) | (with_reducible exact hbz) | (with_reducible refine Below.al ?_ _) | (with_reducible refine Below.drN ?_ _) | (with_reducible refine Below.drew ?_) | (with_reducible refine Below.st ?_ ?_ _; rotate_left 1; (first | (dsimp only; omega) | omega | (simp; omega) | simp)) | (with_reducible refine Below.go ?_ hbt) | exact Below.refl _ _ | exact hbz))
      clear hbt
      go_wp2_with fail
      refine (ints_any _ _ _ _ _ _ _ _ _ _ (costsOf (ix xs) 0 es) (costsOf (ix xs) 0 es) _ hi1 hi2).mono ?_
      rintro e wu ⟨rfl, mu, rfl⟩
      rw [decide_eq_true rfl]
      replace h := h.drewN mu
      replace hh : Handle (wt.drewN mu) := hh
      replace hbz : Below w.heap.size w (wt.drewN mu) := (by repeat (first | fail | (with_reducible exact Below.refl _ _) | (with_reducible exact hbz) | (with_reducible refine Below.al ?_ _) | (with_reducible refine Below.drN ?_ _) | (with_reducible refine Below.drew ?_) | (with_reducible refine Below.st ?_ ?_ _; rotate_left 1; (first | (dsimp only; omega) | omega | (simp; omega) | simp)) | exact Below.refl _ _ | exact hbz))
      clear hi1 hi2
      by_cases g1 : st < 1
      · skip
        have HBF : Hid (bestFault xs st = 1) := Lib.hid (by rw [best_fault HLN.out]; (rw [if_pos (by omega)]))
        go_wp2_with fail
        refine (cutBest_bad xs st _ n k b o _ h (by rw [HBF.out]; decide)).mono ?_
        rintro e wy ⟨rfl, hby⟩
        rw [HBF.out]
        replace h := h.keep hby
        replace hh := hh.keep hby
        replace hbz : Below w.heap.size w wy := (by repeat (first | fail | (with_reducible exact Below.refl _ _) | (with_reducible exact hbz) | (with_reducible refine Below.al ?_ _) | (with_reducible refine Below.drN ?_ _) | (with_reducible refine Below.drew ?_) | (with_reducible refine Below.st ?_ ?_ _; rotate_left 1; (first | (dsimp only; omega) | omega | (simp; omega) | simp)) | (with_reducible refine Below.go ?_ hby) | exact Below.refl _ _ | exact hbz))
        clear hby
        go_wp2_with fail
        refine (error_any 1 1 _ hh).mono ?_
        rintro e wt ⟨rfl, hbt⟩
        rw [decide_eq_true rfl]
        go_wp2_with fail
        refine (ints_any _ _ _ _ _ _ _ _ _ _ [] [] _ (none_ints _) (none_ints _)).mono ?_
        rintro e wu ⟨rfl, mu, rfl⟩
        rw [show decide (([] : List Int) = []) = true from by decide]
        go_wp2
        go_ret
        exact ⟨rfl, (by repeat (first | fail | (with_reducible exact Below.refl _ _) | (with_reducible exact hbz) | (with_reducible refine Below.al ?_ _) | (with_reducible refine Below.drN ?_ _) | (with_reducible refine Below.drew ?_) | (with_reducible refine Below.st ?_ ?_ _; rotate_left 1; (first | (dsimp only; omega) | omega | (simp; omega) | simp)) | (with_reducible refine Below.go ?_ hbt) | exact Below.refl _ _ | exact hbz))⟩
      · by_cases g2 : st > 6
        · skip
          have HBF : Hid (bestFault xs st = 1) := Lib.hid (by rw [best_fault HLN.out]; (rw [if_pos (by omega)]))
          go_wp2_with fail
          refine (cutBest_bad xs st _ n k b o _ h (by rw [HBF.out]; decide)).mono ?_
          rintro e wy ⟨rfl, hby⟩
          rw [HBF.out]
          replace h := h.keep hby
          replace hh := hh.keep hby
          replace hbz : Below w.heap.size w wy := (by repeat (first | fail | (with_reducible exact Below.refl _ _) | (with_reducible exact hbz) | (with_reducible refine Below.al ?_ _) | (with_reducible refine Below.drN ?_ _) | (with_reducible refine Below.drew ?_) | (with_reducible refine Below.st ?_ ?_ _; rotate_left 1; (first | (dsimp only; omega) | omega | (simp; omega) | simp)) | (with_reducible refine Below.go ?_ hby) | exact Below.refl _ _ | exact hbz))
          clear hby
          have e1 : (st < 1) = False := by simp; omega
          go_wp2_with fail
          refine (error_any 1 1 _ hh).mono ?_
          rintro e wt ⟨rfl, hbt⟩
          rw [decide_eq_true rfl]
          go_wp2_with fail
          refine (ints_any _ _ _ _ _ _ _ _ _ _ [] [] _ (none_ints _) (none_ints _)).mono ?_
          rintro e wu ⟨rfl, mu, rfl⟩
          rw [show decide (([] : List Int) = []) = true from by decide]
          go_wp2
          go_ret
          exact ⟨rfl, (by repeat (first | fail | (with_reducible exact Below.refl _ _) | (with_reducible exact hbz) | (with_reducible refine Below.al ?_ _) | (with_reducible refine Below.drN ?_ _) | (with_reducible refine Below.drew ?_) | (with_reducible refine Below.st ?_ ?_ _; rotate_left 1; (first | (dsimp only; omega) | omega | (simp; omega) | simp)) | (with_reducible refine Below.go ?_ hbt) | exact Below.refl _ _ | exact hbz))⟩
        · by_cases g3 : (n : Int) < 1
          · skip
            have HBF : Hid (bestFault xs st = 1) := Lib.hid (by rw [best_fault HLN.out]; (rw [if_pos (by omega)]))
            go_wp2_with fail
            refine (cutBest_bad xs st _ n k b o _ h (by rw [HBF.out]; decide)).mono ?_
            rintro e wy ⟨rfl, hby⟩
            rw [HBF.out]
            replace h := h.keep hby
            replace hh := hh.keep hby
            replace hbz : Below w.heap.size w wy := (by repeat (first | fail | (with_reducible exact Below.refl _ _) | (with_reducible exact hbz) | (with_reducible refine Below.al ?_ _) | (with_reducible refine Below.drN ?_ _) | (with_reducible refine Below.drew ?_) | (with_reducible refine Below.st ?_ ?_ _; rotate_left 1; (first | (dsimp only; omega) | omega | (simp; omega) | simp)) | (with_reducible refine Below.go ?_ hby) | exact Below.refl _ _ | exact hbz))
            clear hby
            have e1 : (st < 1) = False := by simp; omega
            have e2 : (st > 6) = False := by simp; omega
            go_wp2_with fail
            refine (error_any 1 1 _ hh).mono ?_
            rintro e wt ⟨rfl, hbt⟩
            rw [decide_eq_true rfl]
            go_wp2_with fail
            refine (ints_any _ _ _ _ _ _ _ _ _ _ [] [] _ (none_ints _) (none_ints _)).mono ?_
            rintro e wu ⟨rfl, mu, rfl⟩
            rw [show decide (([] : List Int) = []) = true from by decide]
            go_wp2
            go_ret
            exact ⟨rfl, (by repeat (first | fail | (with_reducible exact Below.refl _ _) | (with_reducible exact hbz) | (with_reducible refine Below.al ?_ _) | (with_reducible refine Below.drN ?_ _) | (with_reducible refine Below.drew ?_) | (with_reducible refine Below.st ?_ ?_ _; rotate_left 1; (first | (dsimp only; omega) | omega | (simp; omega) | simp)) | (with_reducible refine Below.go ?_ hbt) | exact Below.refl _ _ | exact hbz))⟩
          · by_cases g4 : (n : Int) > 12
            · skip
              have HBF : Hid (bestFault xs st = 1) := Lib.hid (by rw [best_fault HLN.out]; (rw [if_pos (by omega)]))
              go_wp2_with fail
              refine (cutBest_bad xs st _ n k b o _ h (by rw [HBF.out]; decide)).mono ?_
              rintro e wy ⟨rfl, hby⟩
              rw [HBF.out]
              replace h := h.keep hby
              replace hh := hh.keep hby
              replace hbz : Below w.heap.size w wy := (by repeat (first | fail | (with_reducible exact Below.refl _ _) | (with_reducible exact hbz) | (with_reducible refine Below.al ?_ _) | (with_reducible refine Below.drN ?_ _) | (with_reducible refine Below.drew ?_) | (with_reducible refine Below.st ?_ ?_ _; rotate_left 1; (first | (dsimp only; omega) | omega | (simp; omega) | simp)) | (with_reducible refine Below.go ?_ hby) | exact Below.refl _ _ | exact hbz))
              clear hby
              have e1 : (st < 1) = False := by simp; omega
              have e2 : (st > 6) = False := by simp; omega
              have e3 : ((n : Int) < 1) = False := by simp; omega
              go_wp2_with fail
              refine (error_any 1 1 _ hh).mono ?_
              rintro e wt ⟨rfl, hbt⟩
              rw [decide_eq_true rfl]
              go_wp2_with fail
              refine (ints_any _ _ _ _ _ _ _ _ _ _ [] [] _ (none_ints _) (none_ints _)).mono ?_
              rintro e wu ⟨rfl, mu, rfl⟩
              rw [show decide (([] : List Int) = []) = true from by decide]
              go_wp2
              go_ret
              exact ⟨rfl, (by repeat (first | fail | (with_reducible exact Below.refl _ _) | (with_reducible exact hbz) | (with_reducible refine Below.al ?_ _) | (with_reducible refine Below.drN ?_ _) | (with_reducible refine Below.drew ?_) | (with_reducible refine Below.st ?_ ?_ _; rotate_left 1; (first | (dsimp only; omega) | omega | (simp; omega) | simp)) | (with_reducible refine Below.go ?_ hbt) | exact Below.refl _ _ | exact hbz))⟩
            · have e1 : (st < 1) = False := by simp; omega
              have e2 : (st > 6) = False := by simp; omega
              have e3 : ((n : Int) < 1) = False := by simp; omega
              have e4 : ((n : Int) > 12) = False := by simp; omega
              by_cases g5 : (n : Int) < st
              · skip
                have HBF : Hid (bestFault xs st = 2) := Lib.hid (by rw [best_fault HLN.out]; (rw [if_neg (by omega), if_neg (by rw [HC.out]; decide), if_pos g5]))
                go_wp2_with fail
                refine (cutBest_bad xs st _ n k b o _ h (by rw [HBF.out]; decide)).mono ?_
                rintro e wy ⟨rfl, hby⟩
                rw [HBF.out]
                replace h := h.keep hby
                replace hh := hh.keep hby
                replace hbz : Below w.heap.size w wy := (by repeat (first | fail | (with_reducible exact Below.refl _ _) | (with_reducible exact hbz) | (with_reducible refine Below.al ?_ _) | (with_reducible refine Below.drN ?_ _) | (with_reducible refine Below.drew ?_) | (with_reducible refine Below.st ?_ ?_ _; rotate_left 1; (first | (dsimp only; omega) | omega | (simp; omega) | simp)) | (with_reducible refine Below.go ?_ hby) | exact Below.refl _ _ | exact hbz))
                clear hby
                have e5 : st > (n : Int) := g5
                clear g1 g2 g3 g4 g5
                go_wp2_with fail
                refine (refCosts_any xs _ n k b o _ h).mono ?_
                rintro e wv ⟨rfl, rfl⟩
                rw [HC.out]
                go_wp2_with fail
                refine (error_any 2 2 _ hh).mono ?_
                rintro e wt ⟨rfl, hbt⟩
                rw [decide_eq_true rfl]
                go_wp2_with fail
                refine (ints_any _ _ _ _ _ _ _ _ _ _ [] [] _ (none_ints _) (none_ints _)).mono ?_
                rintro e wu ⟨rfl, mu, rfl⟩
                rw [show decide (([] : List Int) = []) = true from by decide]
                go_wp2
                go_ret
                exact ⟨rfl, (by repeat (first | fail | (with_reducible exact Below.refl _ _) | (with_reducible exact hbz) | (with_reducible refine Below.al ?_ _) | (with_reducible refine Below.drN ?_ _) | (with_reducible refine Below.drew ?_) | (with_reducible refine Below.st ?_ ?_ _; rotate_left 1; (first | (dsimp only; omega) | omega | (simp; omega) | simp)) | (with_reducible refine Below.go ?_ hbt) | exact Below.refl _ _ | exact hbz))⟩
              · obtain ⟨s, rfl⟩ : ∃ s : Nat, st = s := ⟨st.toNat, by omega⟩
                have e5 : ((s : Int) > (n : Int)) = False := by simp; omega
                obtain ⟨s1, s2⟩ : 1 ≤ s ∧ s ≤ 6 := by omega
                obtain ⟨n1, n2⟩ : 1 ≤ n ∧ n ≤ 12 := by omega
                have hsn : s ≤ n := by omega
                obtain ⟨R, hR⟩ : ∃ R, refBest (ix xs) n (s - 1) 0 0 = R := ⟨_, rfl⟩
                have HR := Lib.hid hR
                have hrr : (R.2 == R.2) = true := by simp
                clear g1 g2 g3 g4 g5 hR
                go_wp2_with fail
                refine (best_ok2 xs s _ n k b o _ h HC.out ⟨n1, n2⟩ ⟨s1, s2⟩ hsn R HR.out).mono ?_
                rintro e wy ⟨a1, k1, b1, rfl, _, hi1, hby⟩
                replace h := h.keep hby
                replace hh := hh.keep hby
                replace hbz : Below w.heap.size w wy := (by repeat (first | fail | (with_reducible exact Below.refl _ _) | (with_reducible exact hbz) | (with_reducible refine Below.al ?_ _) | (with_reducible refine Below.drN ?_ _) | (with_reducible refine Below.drew ?_) | (with_reducible refine Below.st ?_ ?_ _; rotate_left 1; (first | (dsimp only; omega) | omega | (simp; omega) | simp)) | (with_reducible refine Below.go ?_ hby) | exact Below.refl _ _ | exact hbz))
                clear hby
                go_wp2_with fail
                refine (refCosts_any xs _ n k b o _ h).mono ?_
                rintro e wv ⟨rfl, rfl⟩
                rw [HC.out]
                go_wp2_with fail
                refine (refBestOf_ok xs (costs_bd HC.out) n s n2 s2 (s - 1) [] 0 _ _ 0 k 0 b 0 o 0 _ h (none_ints _) (by simp; omega) rfl (by omega)).mono ?_
                rintro e wr ⟨a2, k2, b2, rfl, hi2, hb2⟩
                rw [show worst (ix xs) 0 [] = 0 from rfl, HR.out, List.nil_append] at hi2
                rw [show worst (ix xs) 0 [] = 0 from rfl, HR.out]
                replace hi1 := hi1.keep hb2
                replace hh := hh.keep hb2
                replace hbz : Below w.heap.size w wr := (by repeat (first | fail | (with_reducible exact Below.refl _ _) | (with_reducible exact hbz) | (with_reducible refine Below.al ?_ _) | (with_reducible refine Below.drN ?_ _) | (with_reducible refine Below.drew ?_) | (with_reducible refine Below.st ?_ ?_ _; rotate_left 1; (first | (dsimp only; omega) | omega | (simp; omega) | simp)) | (with_reducible refine Below.go ?_ hb2) | exact Below.refl _ _ | exact hbz))
                clear hb2 h
                go_wp2_with fail
                refine (error_any 0 0 _ hh).mono ?_
                rintro e wt ⟨rfl, hbt⟩
                rw [decide_eq_true rfl]
                go_wp2_with fail
                refine (ints_any _ _ _ _ _ _ _ _ _ _ (ints R.1) (ints R.1) _ (hi1.keep hbt) (hi2.keep hbt)).mono ?_
                rintro e wu ⟨rfl, mu, rfl⟩
                rw [decide_eq_true rfl]
                go_wp2
                go_ret
                exact ⟨rfl, (by repeat (first | fail | (with_reducible exact Below.refl _ _) | (with_reducible exact hbz) | (with_reducible refine Below.al ?_ _) | (with_reducible refine Below.drN ?_ _) | (with_reducible refine Below.drew ?_) | (with_reducible refine Below.st ?_ ?_ _; rotate_left 1; (first | (dsimp only; omega) | omega | (simp; omega) | simp)) | (with_reducible refine Below.go ?_ hbt) | exact Below.refl _ _ | exact hbz))⟩
    · have HF : Hid (costFault xs ys = E) := Lib.hid (by unfold costFault; rw [if_neg (by rw [HC.out]; decide), HLN.out, HE.out])
      have HE0 := Lib.hid hE0
      have hq : (E == 0) = false := by simp [hE0]
      clear hE0
      go_wp2_with fail
      refine (cutCost_bad xs ys _ _ n n' k k' b b' o o' _ h h' (by rw [HF.out]; exact HE0.out)).mono ?_
      rintro e wy ⟨rfl, rfl⟩
      rw [HF.out]
      go_wp2_with fail
      refine (refCosts_any xs _ n k b o _ h).mono ?_
      rintro e wv ⟨rfl, rfl⟩
      rw [HC.out]
      go_wp2_with fail
      refine (error_any E E _ hh).mono ?_
      rintro e wt ⟨rfl, hbt⟩
      rw [decide_eq_true rfl]
      replace h := h.keep hbt
      replace hh := hh.keep hbt
      replace hbz : Below w.heap.size w wt := (by repeat (first | fail | (with_reducible exact Below.refl _ _) | (with_reducible exact hbz) | (with_reducible refine Below.al ?_ _) | (with_reducible refine Below.drN ?_ _) | (with_reducible refine Below.drew ?_) | (with_reducible refine Below.st ?_ ?_ _; rotate_left 1; (first | (dsimp only; omega) | omega | (simp; omega) | simp)) | (with_reducible refine Below.go ?_ hbt) | exact Below.refl _ _ | exact hbz))
      clear hbt h'
      go_wp2_with fail
      refine (ints_any _ _ _ _ _ _ _ _ _ _ [] [] _ (none_ints _) (none_ints _)).mono ?_
      rintro e wu ⟨rfl, mu, rfl⟩
      rw [show decide (([] : List Int) = []) = true from by decide]
      replace h := h.drewN mu
      replace hh : Handle (wt.drewN mu) := hh
      replace hbz : Below w.heap.size w (wt.drewN mu) := (by repeat (first | fail | (with_reducible exact Below.refl _ _) | (with_reducible exact hbz) | (with_reducible refine Below.al ?_ _) | (with_reducible refine Below.drN ?_ _) | (with_reducible refine Below.drew ?_) | (with_reducible refine Below.st ?_ ?_ _; rotate_left 1; (first | (dsimp only; omega) | omega | (simp; omega) | simp)) | exact Below.refl _ _ | exact hbz))
      clear hq
      by_cases g1 : st < 1
      · skip
        have HBF : Hid (bestFault xs st = 1) := Lib.hid (by rw [best_fault HLN.out]; (rw [if_pos (by omega)]))
        go_wp2_with fail
        refine (cutBest_bad xs st _ n k b o _ h (by rw [HBF.out]; decide)).mono ?_
        rintro e wy ⟨rfl, hby⟩
        rw [HBF.out]
        replace h := h.keep hby
        replace hh := hh.keep hby
        replace hbz : Below w.heap.size w wy := (by repeat (first | fail | (with_reducible exact Below.refl _ _) | (with_reducible exact hbz) | (with_reducible refine Below.al ?_ _) | (with_reducible refine Below.drN ?_ _) | (with_reducible refine Below.drew ?_) | (with_reducible refine Below.st ?_ ?_ _; rotate_left 1; (first | (dsimp only; omega) | omega | (simp; omega) | simp)) | (with_reducible refine Below.go ?_ hby) | exact Below.refl _ _ | exact hbz))
        clear hby
        go_wp2_with fail
        refine (error_any 1 1 _ hh).mono ?_
        rintro e wt ⟨rfl, hbt⟩
        rw [decide_eq_true rfl]
        go_wp2_with fail
        refine (ints_any _ _ _ _ _ _ _ _ _ _ [] [] _ (none_ints _) (none_ints _)).mono ?_
        rintro e wu ⟨rfl, mu, rfl⟩
        rw [show decide (([] : List Int) = []) = true from by decide]
        go_wp2
        go_ret
        exact ⟨rfl, (by repeat (first | fail | (with_reducible exact Below.refl _ _) | (with_reducible exact hbz) | (with_reducible refine Below.al ?_ _) | (with_reducible refine Below.drN ?_ _) | (with_reducible refine Below.drew ?_) | (with_reducible refine Below.st ?_ ?_ _; rotate_left 1; (first | (dsimp only; omega) | omega | (simp; omega) | simp)) | (with_reducible refine Below.go ?_ hbt) | exact Below.refl _ _ | exact hbz))⟩
      · by_cases g2 : st > 6
        · skip
          have HBF : Hid (bestFault xs st = 1) := Lib.hid (by rw [best_fault HLN.out]; (rw [if_pos (by omega)]))
          go_wp2_with fail
          refine (cutBest_bad xs st _ n k b o _ h (by rw [HBF.out]; decide)).mono ?_
          rintro e wy ⟨rfl, hby⟩
          rw [HBF.out]
          replace h := h.keep hby
          replace hh := hh.keep hby
          replace hbz : Below w.heap.size w wy := (by repeat (first | fail | (with_reducible exact Below.refl _ _) | (with_reducible exact hbz) | (with_reducible refine Below.al ?_ _) | (with_reducible refine Below.drN ?_ _) | (with_reducible refine Below.drew ?_) | (with_reducible refine Below.st ?_ ?_ _; rotate_left 1; (first | (dsimp only; omega) | omega | (simp; omega) | simp)) | (with_reducible refine Below.go ?_ hby) | exact Below.refl _ _ | exact hbz))
          clear hby
          have e1 : (st < 1) = False := by simp; omega
          go_wp2_with fail
          refine (error_any 1 1 _ hh).mono ?_
          rintro e wt ⟨rfl, hbt⟩
          rw [decide_eq_true rfl]
          go_wp2_with fail
          refine (ints_any _ _ _ _ _ _ _ _ _ _ [] [] _ (none_ints _) (none_ints _)).mono ?_
          rintro e wu ⟨rfl, mu, rfl⟩
          rw [show decide (([] : List Int) = []) = true from by decide]
          go_wp2
          go_ret
          exact ⟨rfl, (by repeat (first | fail | (with_reducible exact Below.refl _ _) | (with_reducible exact hbz) | (with_reducible refine Below.al ?_ _) | (with_reducible refine Below.drN ?_ _) | (with_reducible refine Below.drew ?_) | (with_reducible refine Below.st ?_ ?_ _; rotate_left 1; (first | (dsimp only; omega) | omega | (simp; omega) | simp)) | (with_reducible refine Below.go ?_ hbt) | exact Below.refl _ _ | exact hbz))⟩
        · by_cases g3 : (n : Int) < 1
          · skip
            have HBF : Hid (bestFault xs st = 1) := Lib.hid (by rw [best_fault HLN.out]; (rw [if_pos (by omega)]))
            go_wp2_with fail
            refine (cutBest_bad xs st _ n k b o _ h (by rw [HBF.out]; decide)).mono ?_
            rintro e wy ⟨rfl, hby⟩
            rw [HBF.out]
            replace h := h.keep hby
            replace hh := hh.keep hby
            replace hbz : Below w.heap.size w wy := (by repeat (first | fail | (with_reducible exact Below.refl _ _) | (with_reducible exact hbz) | (with_reducible refine Below.al ?_ _) | (with_reducible refine Below.drN ?_ _) | (with_reducible refine Below.drew ?_) | (with_reducible refine Below.st ?_ ?_ _; rotate_left 1; (first | (dsimp only; omega) | omega | (simp; omega) | simp)) | (with_reducible refine Below.go ?_ hby) | exact Below.refl _ _ | exact hbz))
            clear hby
            have e1 : (st < 1) = False := by simp; omega
            have e2 : (st > 6) = False := by simp; omega
            go_wp2_with fail
            refine (error_any 1 1 _ hh).mono ?_
            rintro e wt ⟨rfl, hbt⟩
            rw [decide_eq_true rfl]
            go_wp2_with fail
            refine (ints_any _ _ _ _ _ _ _ _ _ _ [] [] _ (none_ints _) (none_ints _)).mono ?_
            rintro e wu ⟨rfl, mu, rfl⟩
            rw [show decide (([] : List Int) = []) = true from by decide]
            go_wp2
            go_ret
            exact ⟨rfl, (by repeat (first | fail | (with_reducible exact Below.refl _ _) | (with_reducible exact hbz) | (with_reducible refine Below.al ?_ _) | (with_reducible refine Below.drN ?_ _) | (with_reducible refine Below.drew ?_) | (with_reducible refine Below.st ?_ ?_ _; rotate_left 1; (first | (dsimp only; omega) | omega | (simp; omega) | simp)) | (with_reducible refine Below.go ?_ hbt) | exact Below.refl _ _ | exact hbz))⟩
          · by_cases g4 : (n : Int) > 12
            · skip
              have HBF : Hid (bestFault xs st = 1) := Lib.hid (by rw [best_fault HLN.out]; (rw [if_pos (by omega)]))
              go_wp2_with fail
              refine (cutBest_bad xs st _ n k b o _ h (by rw [HBF.out]; decide)).mono ?_
              rintro e wy ⟨rfl, hby⟩
              rw [HBF.out]
              replace h := h.keep hby
              replace hh := hh.keep hby
              replace hbz : Below w.heap.size w wy := (by repeat (first | fail | (with_reducible exact Below.refl _ _) | (with_reducible exact hbz) | (with_reducible refine Below.al ?_ _) | (with_reducible refine Below.drN ?_ _) | (with_reducible refine Below.drew ?_) | (with_reducible refine Below.st ?_ ?_ _; rotate_left 1; (first | (dsimp only; omega) | omega | (simp; omega) | simp)) | (with_reducible refine Below.go ?_ hby) | exact Below.refl _ _ | exact hbz))
              clear hby
              have e1 : (st < 1) = False := by simp; omega
              have e2 : (st > 6) = False := by simp; omega
              have e3 : ((n : Int) < 1) = False := by simp; omega
              go_wp2_with fail
              refine (error_any 1 1 _ hh).mono ?_
              rintro e wt ⟨rfl, hbt⟩
              rw [decide_eq_true rfl]
              go_wp2_with fail
              refine (ints_any _ _ _ _ _ _ _ _ _ _ [] [] _ (none_ints _) (none_ints _)).mono ?_
              rintro e wu ⟨rfl, mu, rfl⟩
              rw [show decide (([] : List Int) = []) = true from by decide]
              go_wp2
              go_ret
              exact ⟨rfl, (by repeat (first | fail | (with_reducible exact Below.refl _ _) | (with_reducible exact hbz) | (with_reducible refine Below.al ?_ _) | (with_reducible refine Below.drN ?_ _) | (with_reducible refine Below.drew ?_) | (with_reducible refine Below.st ?_ ?_ _; rotate_left 1; (first | (dsimp only; omega) | omega | (simp; omega) | simp)) | (with_reducible refine Below.go ?_ hbt) | exact Below.refl _ _ | exact hbz))⟩
            · have e1 : (st < 1) = False := by simp; omega
              have e2 : (st > 6) = False := by simp; omega
              have e3 : ((n : Int) < 1) = False := by simp; omega
              have e4 : ((n : Int) > 12) = False := by simp; omega
              by_cases g5 : (n : Int) < st
              · skip
                have HBF : Hid (bestFault xs st = 2) := Lib.hid (by rw [best_fault HLN.out]; (rw [if_neg (by omega), if_neg (by rw [HC.out]; decide), if_pos g5]))
                go_wp2_with fail
                refine (cutBest_bad xs st _ n k b o _ h (by rw [HBF.out]; decide)).mono ?_
                rintro e wy ⟨rfl, hby⟩
                rw [HBF.out]
                replace h := h.keep hby
                replace hh := hh.keep hby
                replace hbz : Below w.heap.size w wy := (by repeat (first | fail | (with_reducible exact Below.refl _ _) | (with_reducible exact hbz) | (with_reducible refine Below.al ?_ _) | (with_reducible refine Below.drN ?_ _) | (with_reducible refine Below.drew ?_) | (with_reducible refine Below.st ?_ ?_ _; rotate_left 1; (first | (dsimp only; omega) | omega | (simp; omega) | simp)) | (with_reducible refine Below.go ?_ hby) | exact Below.refl _ _ | exact hbz))
                clear hby
                have e5 : st > (n : Int) := g5
                clear g1 g2 g3 g4 g5
                go_wp2_with fail
                refine (refCosts_any xs _ n k b o _ h).mono ?_
                rintro e wv ⟨rfl, rfl⟩
                rw [HC.out]
                go_wp2_with fail
                refine (error_any 2 2 _ hh).mono ?_
                rintro e wt ⟨rfl, hbt⟩
                rw [decide_eq_true rfl]
                go_wp2_with fail
                refine (ints_any _ _ _ _ _ _ _ _ _ _ [] [] _ (none_ints _) (none_ints _)).mono ?_
                rintro e wu ⟨rfl, mu, rfl⟩
                rw [show decide (([] : List Int) = []) = true from by decide]
                go_wp2
                go_ret
                exact ⟨rfl, (by repeat (first | fail | (with_reducible exact Below.refl _ _) | (with_reducible exact hbz) | (with_reducible refine Below.al ?_ _) | (with_reducible refine Below.drN ?_ _) | (with_reducible refine Below.drew ?_) | (with_reducible refine Below.st ?_ ?_ _; rotate_left 1; (first | (dsimp only; omega) | omega | (simp; omega) | simp)) | (with_reducible refine Below.go ?_ hbt) | exact Below.refl _ _ | exact hbz))⟩
              · obtain ⟨s, rfl⟩ : ∃ s : Nat, st = s := ⟨st.toNat, by omega⟩
                have e5 : ((s : Int) > (n : Int)) = False := by simp; omega
                obtain ⟨s1, s2⟩ : 1 ≤ s ∧ s ≤ 6 := by omega
                obtain ⟨n1, n2⟩ : 1 ≤ n ∧ n ≤ 12 := by omega
                have hsn : s ≤ n := by omega
                obtain ⟨R, hR⟩ : ∃ R, refBest (ix xs) n (s - 1) 0 0 = R := ⟨_, rfl⟩
                have HR := Lib.hid hR
                have hrr : (R.2 == R.2) = true := by simp
                clear g1 g2 g3 g4 g5 hR
                go_wp2_with fail
                refine (best_ok2 xs s _ n k b o _ h HC.out ⟨n1, n2⟩ ⟨s1, s2⟩ hsn R HR.out).mono ?_
                rintro e wy ⟨a1, k1, b1, rfl, _, hi1, hby⟩
                replace h := h.keep hby
                replace hh := hh.keep hby
                replace hbz : Below w.heap.size w wy := (by repeat (first | fail | (with_reducible exact Below.refl _ _) | (with_reducible exact hbz) | (with_reducible refine Below.al ?_ _) | (with_reducible refine Below.drN ?_ _) | (with_reducible refine Below.drew ?_) | (with_reducible refine Below.st ?_ ?_ _; rotate_left 1; (first | (dsimp only; omega) | omega | (simp; omega) | simp)) | (with_reducible refine Below.go ?_ hby) | exact Below.refl _ _ | exact hbz))
                clear hby
                go_wp2_with fail
                refine (refCosts_any xs _ n k b o _ h).mono ?_
                rintro e wv ⟨rfl, rfl⟩
                rw [HC.out]
                go_wp2_with fail
                refine (refBestOf_ok xs (costs_bd HC.out) n s n2 s2 (s - 1) [] 0 _ _ 0 k 0 b 0 o 0 _ h (none_ints _) (by simp; omega) rfl (by omega)).mono ?_
                rintro e wr ⟨a2, k2, b2, rfl, hi2, hb2⟩
                rw [show worst (ix xs) 0 [] = 0 from rfl, HR.out, List.nil_append] at hi2
                rw [show worst (ix xs) 0 [] = 0 from rfl, HR.out]
                replace hi1 := hi1.keep hb2
                replace hh := hh.keep hb2
                replace hbz : Below w.heap.size w wr := (by repeat (first | fail | (with_reducible exact Below.refl _ _) | (with_reducible exact hbz) | (with_reducible refine Below.al ?_ _) | (with_reducible refine Below.drN ?_ _) | (with_reducible refine Below.drew ?_) | (with_reducible refine Below.st ?_ ?_ _; rotate_left 1; (first | (dsimp only; omega) | omega | (simp; omega) | simp)) | (with_reducible refine Below.go ?_ hb2) | exact Below.refl _ _ | exact hbz))
                clear hb2 h
                go_wp2_with fail
                refine (error_any 0 0 _ hh).mono ?_
                rintro e wt ⟨rfl, hbt⟩
                rw [decide_eq_true rfl]
                go_wp2_with fail
                refine (ints_any _ _ _ _ _ _ _ _ _ _ (ints R.1) (ints R.1) _ (hi1.keep hbt) (hi2.keep hbt)).mono ?_
                rintro e wu ⟨rfl, mu, rfl⟩
                rw [decide_eq_true rfl]
                go_wp2
                go_ret
                exact ⟨rfl, (by repeat (first | fail | (with_reducible exact Below.refl _ _) | (with_reducible exact hbz) | (with_reducible refine Below.al ?_ _) | (with_reducible refine Below.drN ?_ _) | (with_reducible refine Below.drew ?_) | (with_reducible refine Below.st ?_ ?_ _; rotate_left 1; (first | (dsimp only; omega) | omega | (simp; omega) | simp)) | (with_reducible refine Below.go ?_ hbt) | exact Below.refl _ _ | exact hbz))⟩
  · have HC := Lib.hid hC
    have HF : Hid (costFault xs ys = 1) := Lib.hid (by unfold costFault; rw [if_pos (by rw [hC]; decide), hC])
    clear hC
    go_wp2_with fail
    refine (cutCost_bad xs ys _ _ n n' k k' b b' o o' _ h h' (by rw [HF.out]; decide)).mono ?_
    rintro e wy ⟨rfl, rfl⟩
    rw [HF.out]
    go_wp2_with fail
    refine (refCosts_any xs _ n k b o _ h).mono ?_
    rintro e wv ⟨rfl, rfl⟩
    rw [HC.out]
    go_wp2_with fail
    refine (error_any 1 1 _ hh).mono ?_
    rintro e wt ⟨rfl, hbt⟩
    rw [decide_eq_true rfl]
    replace h := h.keep hbt
    replace hh := hh.keep hbt
    replace hbz : Below w.heap.size w wt := (by repeat (first | fail | (with_reducible exact Below.refl _ _) | (with_reducible exact hbz) | (with_reducible refine Below.al ?_ _) | (with_reducible refine Below.drN ?_ _) | (with_reducible refine Below.drew ?_) | (with_reducible refine Below.st ?_ ?_ _; rotate_left 1; (first | (dsimp only; omega) | omega | (simp; omega) | simp)) | (with_reducible refine Below.go ?_ hbt) | exact Below.refl _ _ | exact hbz))
    clear hbt h'
    go_wp2_with fail
    refine (ints_any _ _ _ _ _ _ _ _ _ _ [] [] _ (none_ints _) (none_ints _)).mono ?_
    rintro e wu ⟨rfl, mu, rfl⟩
    rw [show decide (([] : List Int) = []) = true from by decide]
    replace h := h.drewN mu
    replace hh : Handle (wt.drewN mu) := hh
    replace hbz : Below w.heap.size w (wt.drewN mu) := (by repeat (first | fail | (with_reducible exact Below.refl _ _) | (with_reducible exact hbz) | (with_reducible refine Below.al ?_ _) | (with_reducible refine Below.drN ?_ _) | (with_reducible refine Below.drew ?_) | (with_reducible refine Below.st ?_ ?_ _; rotate_left 1; (first | (dsimp only; omega) | omega | (simp; omega) | simp)) | exact Below.refl _ _ | exact hbz))
    by_cases g1 : st < 1
    · skip
      have HBF : Hid (bestFault xs st = 1) := Lib.hid (by rw [best_fault HLN.out]; (rw [if_pos (by omega)]))
      go_wp2_with fail
      refine (cutBest_bad xs st _ n k b o _ h (by rw [HBF.out]; decide)).mono ?_
      rintro e wy ⟨rfl, hby⟩
      rw [HBF.out]
      replace h := h.keep hby
      replace hh := hh.keep hby
      replace hbz : Below w.heap.size w wy := (by repeat (first | fail | (with_reducible exact Below.refl _ _) | (with_reducible exact hbz) | (with_reducible refine Below.al ?_ _) | (with_reducible refine Below.drN ?_ _) | (with_reducible refine Below.drew ?_) | (with_reducible refine Below.st ?_ ?_ _; rotate_left 1; (first | (dsimp only; omega) | omega | (simp; omega) | simp)) | (with_reducible refine Below.go ?_ hby) | exact Below.refl _ _ | exact hbz))
      clear hby
      go_wp2_with fail
      refine (error_any 1 1 _ hh).mono ?_
      rintro e wt ⟨rfl, hbt⟩
      rw [decide_eq_true rfl]
      go_wp2_with fail
      refine (ints_any _ _ _ _ _ _ _ _ _ _ [] [] _ (none_ints _) (none_ints _)).mono ?_
      rintro e wu ⟨rfl, mu, rfl⟩
      rw [show decide (([] : List Int) = []) = true from by decide]
      go_wp2
      go_ret
      exact ⟨rfl, (by repeat (first | fail | (with_reducible exact Below.refl _ _) | (with_reducible exact hbz) | (with_reducible refine Below.al ?_ _) | (with_reducible refine Below.drN ?_ _) | (with_reducible refine Below.drew ?_) | (with_reducible refine Below.st ?_ ?_ _; rotate_left 1; (first | (dsimp only; omega) | omega | (simp; omega) | simp)) | (with_reducible refine Below.go ?_ hbt) | exact Below.refl _ _ | exact hbz))⟩
    · by_cases g2 : st > 6
      · skip
        have HBF : Hid (bestFault xs st = 1) := Lib.hid (by rw [best_fault HLN.out]; (rw [if_pos (by omega)]))
        go_wp2_with fail
        refine (cutBest_bad xs st _ n k b o _ h (by rw [HBF.out]; decide)).mono ?_
        rintro e wy ⟨rfl, hby⟩
        rw [HBF.out]
        replace h := h.keep hby
        replace hh := hh.keep hby
        replace hbz : Below w.heap.size w wy := (by repeat (first | fail | (with_reducible exact Below.refl _ _) | (with_reducible exact hbz) | (with_reducible refine Below.al ?_ _) | (with_reducible refine Below.drN ?_ _) | (with_reducible refine Below.drew ?_) | (with_reducible refine Below.st ?_ ?_ _; rotate_left 1; (first | (dsimp only; omega) | omega | (simp; omega) | simp)) | (with_reducible refine Below.go ?_ hby) | exact Below.refl _ _ | exact hbz))
        clear hby
        have e1 : (st < 1) = False := by simp; omega
        go_wp2_with fail
        refine (error_any 1 1 _ hh).mono ?_
        rintro e wt ⟨rfl, hbt⟩
        rw [decide_eq_true rfl]
        go_wp2_with fail
        refine (ints_any _ _ _ _ _ _ _ _ _ _ [] [] _ (none_ints _) (none_ints _)).mono ?_
        rintro e wu ⟨rfl, mu, rfl⟩
        rw [show decide (([] : List Int) = []) = true from by decide]
        go_wp2
        go_ret
        exact ⟨rfl, (by repeat (first | fail | (with_reducible exact Below.refl _ _) | (with_reducible exact hbz) | (with_reducible refine Below.al ?_ _) | (with_reducible refine Below.drN ?_ _) | (with_reducible refine Below.drew ?_) | (with_reducible refine Below.st ?_ ?_ _; rotate_left 1; (first | (dsimp only; omega) | omega | (simp; omega) | simp)) | (with_reducible refine Below.go ?_ hbt) | exact Below.refl _ _ | exact hbz))⟩
      · by_cases g3 : (n : Int) < 1
        · skip
          have HBF : Hid (bestFault xs st = 1) := Lib.hid (by rw [best_fault HLN.out]; (rw [if_pos (by omega)]))
          go_wp2_with fail
          refine (cutBest_bad xs st _ n k b o _ h (by rw [HBF.out]; decide)).mono ?_
          rintro e wy ⟨rfl, hby⟩
          rw [HBF.out]
          replace h := h.keep hby
          replace hh := hh.keep hby
          replace hbz : Below w.heap.size w wy := (by repeat (first | fail | (with_reducible exact Below.refl _ _) | (with_reducible exact hbz) | (with_reducible refine Below.al ?_ _) | (with_reducible refine Below.drN ?_ _) | (with_reducible refine Below.drew ?_) | (with_reducible refine Below.st ?_ ?_ _; rotate_left 1; (first | (dsimp only; omega) | omega | (simp; omega) | simp)) | (with_reducible refine Below.go ?_ hby) | exact Below.refl _ _ | exact hbz))
          clear hby
          have e1 : (st < 1) = False := by simp; omega
          have e2 : (st > 6) = False := by simp; omega
          go_wp2_with fail
          refine (error_any 1 1 _ hh).mono ?_
          rintro e wt ⟨rfl, hbt⟩
          rw [decide_eq_true rfl]
          go_wp2_with fail
          refine (ints_any _ _ _ _ _ _ _ _ _ _ [] [] _ (none_ints _) (none_ints _)).mono ?_
          rintro e wu ⟨rfl, mu, rfl⟩
          rw [show decide (([] : List Int) = []) = true from by decide]
          go_wp2
          go_ret
          exact ⟨rfl, (by repeat (first | fail | (with_reducible exact Below.refl _ _) | (with_reducible exact hbz) | (with_reducible refine Below.al ?_ _) | (with_reducible refine Below.drN ?_ _) | (with_reducible refine Below.drew ?_) | (with_reducible refine Below.st ?_ ?_ _; rotate_left 1; (first | (dsimp only; omega) | omega | (simp; omega) | simp)) | (with_reducible refine Below.go ?_ hbt) | exact Below.refl _ _ | exact hbz))⟩
        · by_cases g4 : (n : Int) > 12
          · skip
            have HBF : Hid (bestFault xs st = 1) := Lib.hid (by rw [best_fault HLN.out]; (rw [if_pos (by omega)]))
            go_wp2_with fail
            refine (cutBest_bad xs st _ n k b o _ h (by rw [HBF.out]; decide)).mono ?_
            rintro e wy ⟨rfl, hby⟩
            rw [HBF.out]
            replace h := h.keep hby
            replace hh := hh.keep hby
            replace hbz : Below w.heap.size w wy := (by repeat (first | fail | (with_reducible exact Below.refl _ _) | (with_reducible exact hbz) | (with_reducible refine Below.al ?_ _) | (with_reducible refine Below.drN ?_ _) | (with_reducible refine Below.drew ?_) | (with_reducible refine Below.st ?_ ?_ _; rotate_left 1; (first | (dsimp only; omega) | omega | (simp; omega) | simp)) | (with_reducible refine Below.go ?_ hby) | exact Below.refl _ _ | exact hbz))
            clear hby
            have e1 : (st < 1) = False := by simp; omega
            have e2 : (st > 6) = False := by simp; omega
            have e3 : ((n : Int) < 1) = False := by simp; omega
            go_wp2_with fail
            refine (error_any 1 1 _ hh).mono ?_
            rintro e wt ⟨rfl, hbt⟩
            rw [decide_eq_true rfl]
            go_wp2_with fail
            refine (ints_any _ _ _ _ _ _ _ _ _ _ [] [] _ (none_ints _) (none_ints _)).mono ?_
            rintro e wu ⟨rfl, mu, rfl⟩
            rw [show decide (([] : List Int) = []) = true from by decide]
            go_wp2
            go_ret
            exact ⟨rfl, (by repeat (first | fail | (with_reducible exact Below.refl _ _) | (with_reducible exact hbz) | (with_reducible refine Below.al ?_ _) | (with_reducible refine Below.drN ?_ _) | (with_reducible refine Below.drew ?_) | (with_reducible refine Below.st ?_ ?_ _; rotate_left 1; (first | (dsimp only; omega) | omega | (simp; omega) | simp)) | (with_reducible refine Below.go ?_ hbt) | exact Below.refl _ _ | exact hbz))⟩
          · have e1 : (st < 1) = False := by simp; omega
            have e2 : (st > 6) = False := by simp; omega
            have e3 : ((n : Int) < 1) = False := by simp; omega
            have e4 : ((n : Int) > 12) = False := by simp; omega
            have HBF : Hid (bestFault xs st = 1) := Lib.hid (by rw [best_fault HLN.out]; (rw [if_neg (by omega), if_pos (by rw [HC.out]; decide), HC.out]))
            go_wp2_with fail
            refine (cutBest_bad xs st _ n k b o _ h (by rw [HBF.out]; decide)).mono ?_
            rintro e wy ⟨rfl, hby⟩
            rw [HBF.out]
            replace h := h.keep hby
            replace hh := hh.keep hby
            replace hbz : Below w.heap.size w wy := (by repeat (first | fail | (with_reducible exact Below.refl _ _) | (with_reducible exact hbz) | (with_reducible refine Below.al ?_ _) | (with_reducible refine Below.drN ?_ _) | (with_reducible refine Below.drew ?_) | (with_reducible refine Below.st ?_ ?_ _; rotate_left 1; (first | (dsimp only; omega) | omega | (simp; omega) | simp)) | (with_reducible refine Below.go ?_ hby) | exact Below.refl _ _ | exact hbz))
            clear hby
            clear g1 g2 g3 g4
            go_wp2_with fail
            refine (refCosts_any xs _ n k b o _ h).mono ?_
            rintro e wv ⟨rfl, rfl⟩
            rw [HC.out]
            go_wp2_with fail
            refine (error_any 1 1 _ hh).mono ?_
            rintro e wt ⟨rfl, hbt⟩
            rw [decide_eq_true rfl]
            go_wp2_with fail
            refine (ints_any _ _ _ _ _ _ _ _ _ _ [] [] _ (none_ints _) (none_ints _)).mono ?_
            rintro e wu ⟨rfl, mu, rfl⟩
            rw [show decide (([] : List Int) = []) = true from by decide]
            go_wp2
            go_ret
            exact ⟨rfl, (by repeat (first | fail | (with_reducible exact Below.refl _ _) | (with_reducible exact hbz) | (with_reducible refine Below.al ?_ _) | (with_reducible refine Below.drN ?_ _) | (with_reducible refine Below.drew ?_) | (with_reducible refine Below.st ?_ ?_ _; rotate_left 1; (first | (dsimp only; omega) | omega | (simp; omega) | simp)) | (with_reducible refine Below.go ?_ hbt) | exact Below.refl _ _ | exact hbz))⟩

theorem own : ownKnob Tryd.prog.godebug = none := by kernel_rfl
theorem laidOut : laidOutB Tryd.prog = true := by kernel_rfl
theorem et : Tryd.prog.globalNamed "errors.errorType" = some 0 := by kernel_rfl
theorem rt : (Tryd.prog.cutTypes.find? (·.1 == "internal/reflectlite.rtype")).map (·.2) = some 117 := by kernel_rfl
theorem oneRow : ((List.range 160).filter fun t => Tryd.prog.rowNamed t [101, 114, 114, 111, 114]) = [24] := by kernel_rfl
theorem tsize : Tryd.prog.types.size = 160 := by kernel_rfl
theorem handle_of_laid {W : World} (h : laidMetH Tryd.prog Rows.cutTellsRow.laid W) : Handle W := by
  have h' : laidMet Tryd.prog [] W ∧ handlesMet Tryd.prog Rows.cutTellsRow.laid W := h
  obtain ⟨name, u, ty, e1, e2, e3, e4, e5⟩ := h'.2 _ (List.mem_singleton.2 rfl)
  have en : name = [101, 114, 114, 111, 114] := (Option.some.inj e1).symm
  subst en
  obtain rfl := Option.some.inj (rt.symm.trans e2)
  have hm : ty ∈ (List.range 160).filter fun t => Tryd.prog.rowNamed t [101, 114, 114, 111, 114] := List.mem_filter.2 ⟨List.mem_range.2 (by rw [← tsize]; exact e3), e4⟩
  rw [oneRow] at hm
  obtain rfl := List.mem_singleton.1 hm
  have hh : typeHandle Tryd.prog 24 = .pointer (some ⟨1, 24, none⟩) := by kernel_rfl
  rw [hh] at e5
  simpa [Handle, handleV] using World.var?_cell et e5 0
noncomputable def laidWorld (os : Os) : World :=
  { World.holding Tryd.prog os ⟨#[], #[], []⟩ with heap := (World.holding Tryd.prog os ⟨#[], #[], []⟩).heap.modify 0 fun
      | .cells _ t frozen => .cells #[.iface 117 (.agg #[.pointer (some ⟨1, 24, none⟩)])] t frozen
      | o => o }
theorem laid_met (os : Os) : laidMetH Tryd.prog Rows.cutTellsRow.laid ((laidWorld os).forCall (fun _ _ => 0) ⟨#[], #[.slice none 0 0, .slice none 0 0, .int .i64 0], []⟩).memory :=
  laidMetH_of_parts (laidMet_nil _ _) (by kernel_rfl)
theorem reads (os : Os) {H : Type} (enc : TypeId × Value → H) : ∃ places, DataW.whole enc Tryd.prog ((laidWorld os).forCall (fun _ _ => 0) ⟨#[], #[.slice none 0 0, .slice none 0 0, .int .i64 0], []⟩).memory Tryd.f6.params.toList Rows.cutTellsSpec.vars false (#[.slice none 0 0, .slice none 0 0, .int .i64 0] : Array Value).toList 8 = some ([.nil, .nil, .lit (.int .i64 0)], [], places) :=
  ⟨[], by kernel_rfl⟩
set_option maxRecDepth 100000 in
set_option maxHeartbeats 1000000 in
theorem contract (H : Type) (enc : TypeId × Value → H) (W : World) (base : Nat) (args : Array Value) (ds gs : List (DataW H)) (before : List MemPlace)
    (hval0 : ∀ (j : Nat) t v, Tryd.f6.params[j]? = some t → args[j]? = some v → Value.okWide Tryd.prog W .any base t v)
    (hW : DataW.Whole enc Tryd.prog Tryd.f6.params.toList Rows.cutTellsSpec.vars false W args.toList ds gs before) (hh : Handle W) :
    Calls Tryd.prog 6 args W fun e W' => ∃ v, e = .returned v ∧ Rows.cutTellsSpec.post enc Tryd.prog Tryd.f6 false true false false W args v W' := by
  have hval := hval0
  have hW' := hW
  obtain ⟨p, q, hA0, hV, rfl, hfz, hnd⟩ := hW
  have hA : DataW.TrodAll enc Tryd.prog W 0 (fun _ => true) true Tryd.f6.params.toList args.toList ds p := hA0
  rw [Tryd.params6] at hA hval
  obtain ⟨v0, vs0, d0, ds0, p0, q0, hargs, rfl, rfl, h0, r0⟩ := trodAll_cons hA
  obtain ⟨v1, vs1, d1, ds1, p1, q1, rfl, rfl, rfl, h1, r1⟩ := trodAll_cons r0
  obtain ⟨v2, vs2, d2, ds2, p2, q2, rfl, rfl, rfl, h2, r2⟩ := trodAll_cons r1
  obtain ⟨rfl, rfl, rfl⟩ := trodAll_nil r2
  obtain rfl : args = #[v0, v1, v2] := by cases args; simp_all
  obtain ⟨rfl, rfl⟩ := trodVars_none hV
  have k0 := h0
  have lt0 : ∀ x ∈ p0, x.block < W.heap.size := by obtain ⟨m, hm⟩ := k0; exact DataW.trod_lt m _ _ _ hm
  have k1 := h1
  have lt1 : ∀ x ∈ p1, x.block < W.heap.size := by obtain ⟨m, hm⟩ := k1; exact DataW.trod_lt m _ _ _ hm
  have k2 := h2
  have lt2 : ∀ x ∈ p2, x.block < W.heap.size := by obtain ⟨m, hm⟩ := k2; exact DataW.trod_lt m _ _ _ hm
  obtain ⟨a0, w0⟩ := open_lint (hval 0 39 v0 rfl rfl) h0
  obtain ⟨a1, w1⟩ := open_lint (hval 1 39 v1 rfl rfl) h1
  obtain ⟨a2, rfl, rfl, rfl, w2⟩ := open_int Tryd.underlying3 (hval 2 3 v2 rfl rfl) h2
  clear hA0 hval0
  refine (walk a0 v0 a1 v1 a2 W w0 w1 w2 hh).mono fun e W' ⟨he, bel⟩ => ?_
  subst he
  exact ⟨_, rfl, _, _, _, [], _, [], hW', trodAll_mk1 (shut_bool Tryd.underlying4 _), (trodAll_cons_mk (Below.trod laidOut (by kernel_rfl) (of_decide_eq_true (by kernel_rfl)) k0 bel lt0) (trodAll_cons_mk (Below.trod laidOut (by kernel_rfl) (of_decide_eq_true (by kernel_rfl)) k1 bel lt1) (trodAll_cons_mk (Below.trod laidOut (by kernel_rfl) (of_decide_eq_true (by kernel_rfl)) k2 bel lt2) trodAll_mk0))), rfl, bel.frame _, fun h => by cases h⟩

set_option maxRecDepth 100000 in
theorem lifted (os : Os) (started : os.Started) (H : Type) (enc : TypeId × Value → H) (F : Stop.Interp) :
    ReturnsInHanded {} Tryd.checked os 6 .any ((OpenSpec.ofChange Rows.cutTellsSpec).preRow enc Tryd.prog Tryd.f6 Rows.cutTellsRow.domain false Rows.cutTellsRow.laid) (((OpenSpec.ofChange Rows.cutTellsSpec).at F).post enc Tryd.prog Tryd.f6 false true false false) := by
  obtain ⟨places, hx⟩ := reads os enc
  refine returnsInHanded_of_row (C := Tryd.checked) (s := OpenSpec.ofChange Rows.cutTellsSpec) own started (by kernel_rfl) Tryd.func6
    (witness_row_at (enc := enc) (C := Tryd.checked) false (laidWorld os) #[.slice none 0 0, .slice none 0 0, .int .i64 0] rfl (by kernel_rfl) (by kernel_rfl) (by kernel_rfl)
      (OpenSpec.preRow_of_cond 8 hx (by kernel_rfl) (fun k hk => by cases hk) (by kernel_rfl) (laid_met os))) ?_
  intro W base args ds gs before hval hW _ _ _ hL _ _
  exact contract H enc W base args ds gs before hval hW (handle_of_laid hL)

theorem said : Rows.CutTellsSaid :=
  OpenClaim.holds_of_cond 6 Tryd.f6 rfl rfl rfl rfl rfl rfl rfl ⟨rfl, rfl, rfl, rfl, rfl⟩ rfl rfl rfl rfl rfl (by kernel_rfl) Tryd.func6 (by kernel_rfl)
    (of_decide_eq_true (by kernel_rfl)) (by unfold Func.isWrapper; first | (rw [if_pos (by decide +kernel)]; kernel_rfl) | (rw [if_neg (by decide +kernel)]; exact ⟨rfl, rfl⟩))
    (fun os started H enc _ F => by rw [OpenClaim.pre_eq_preRow]; exact lifted os started H enc F)
theorem plain (f : FuncId) (fn : Func) (hf : Tryd.pinned.checked.prog.funcNamed Rows.cutTellsRow.func = some f) (hfn : Tryd.pinned.checked.prog.funcs[f]? = some fn) :
    Rows.cutTellsCard.stood.looks = Tryd.pinned.checked.prog.looks [] ∧ ∀ (j : Nat) t, fn.params[j]? = some t → Tryd.pinned.checked.prog.wantsStandIn t = false := by
  obtain rfl : f = 6 := Option.some.inj ((show Tryd.prog.funcNamed Rows.cutTellsRow.func = some 6 by kernel_rfl).symm.trans hf) |>.symm
  obtain rfl : fn = Tryd.f6 := (Option.some.inj (Tryd.func6.symm.trans hfn)).symm
  refine ⟨by kernel_rfl, fun j t ht => ?_⟩
  rw [Tryd.params6] at ht
  have hm := Array.mem_of_getElem? ht
  have hc : t = 39 ∨ t = 39 ∨ t = 3 := by simpa using hm
  rcases hc with rfl | rfl | rfl
  · exact (show Tryd.prog.wantsStandIn 39 = false by kernel_rfl)
  · exact (show Tryd.prog.wantsStandIn 39 = false by kernel_rfl)
  · exact (show Tryd.prog.wantsStandIn 3 = false by kernel_rfl)
theorem proved : Rows.CutTellsCardSaid :=
  Claim7.holds_tied_plain_at .later [] _ _ _ _ said (fun _ h => by cases h) (by kernel_rfl) (fun _ h => by cases h) cutTells_row_tie rfl ⟨rfl, rfl⟩ (by kernel_rfl) rfl plain (by kernel_rfl)
#print axioms proved

end Go.Proofs.YtjaepdkeldgikaaDoor.lawCutTells
