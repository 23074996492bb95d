/- Texts joined: Cut5. -/
import Derived.Test.YtchngeagnlngaaaJ39
import Derived.Test.YtchngeagnlngaaaJ04
import Derived.Laws.EntriesVeiled
section
set_option linter.unusedVariables false
set_option linter.unusedSimpArgs false
set_option linter.unusedSectionVars false
namespace Gal
theorem costs_bd {xs : List Int} (hx : costsFault xs = 0) : ∀ i, 0 ≤ ix xs i ∧ ix xs i ≤ 1000000 := fun i => by
 rcases Nat.lt_or_ge i xs.length with h1 | h1
 ·unfold costsFault at hx
  by_cases h2 : costsTo xs xs.length
  ·exact costsTo_iff.1 h2 i h1
  ·rw [if_neg h2] at hx; exact absurd hx (by decide)
 ·have : ix xs i = 0 := by unfold ix; rw [List.getElem?_eq_none h1]; rfl
  omega
def lim (c : Nat → Int) (n s : Nat) : Nat := (List.range (sg c 0 n).toNat).countP (fun (i : Nat) => !decide (tl c n (i : Int) n ≤ s))
theorem lim_is {c : Nat → Int} {n s : Nat} (hc : ∀ i, 0 ≤ c i) (hs : s + 1 ≤ n) : (lim c n (s + 1) : Int) = (refBest c n s 0 0).2 := limit_is hc hs (by have := sg_nn hc 0 n; omega)
theorem lim_ok {c : Nat → Int} {n s : Nat} (hc : ∀ i, 0 ≤ c i) (h1 : 1 ≤ s) (hs : s ≤ n) : Fits c n (lim c n s) s 0 := by
 obtain ⟨r, rfl⟩ : ∃ r, s = r + 1 := ⟨s - 1, by omega⟩
 obtain ⟨b1, b2, _⟩ := best_is (c := c) (n := n) hc hs
 rw [← lim_is hc hs] at b1 b2
 have := fits_iff (c := c) (n := n) (L := lim c n (r + 1)) hc b1 (d := n) (s := r + 1) (Nat.le_refl _)
 rw [Nat.sub_self] at this
 exact this.2 ⟨b2, hs⟩
theorem lim_le {c : Nat → Int} {n s : Nat} : (lim c n s : Int) ≤ max 0 (sg c 0 n) := by
 have := List.countP_le_length (p := fun (i : Nat) => !decide (tl c n (i : Int) n ≤ s)) (l := List.range (sg c 0 n).toNat)
 rw [List.length_range] at this
 unfold lim
 omega
theorem all_bd {c : Nat → Int} (hc : ∀ i, 0 ≤ c i ∧ c i ≤ 1000000) {t n : Nat} (h : t ≤ n) (h2 : n ≤ 12) : 0 ≤ sg c 0 t ∧ sg c 0 t ≤ 12000000 := by
 have := sg_bd hc 0 t
 omega
end Gal
namespace Go.Proofs.Ytchngeagnlngaaa
open Go.RowKit Gal
set_option maxRecDepth 100000
set_option maxHeartbeats 4000000
theorem cutBest_ok (xs : List Int) (s : Nat) (a : Option Addr) (n k b o : Nat) (w : World) (h : IntsAt w a n k b o xs) (hx : costsFault xs = 0) (hn : 1 ≤ n ∧ n ≤ 12) (hs : 1 ≤ s ∧ s ≤ 6) (hsn : s ≤ n) :
  Calls Try.prog 13 #[.slice a n k, .int .i64 s] w fun e w' => ∃ v a' k' b', e = .returned (.tuple #[v, .int .i64 (lim (ix xs) n s), .nilIface]) ∧ v = .slice a' s k' ∧ w.heap.size ≤ b' ∧ IntsAt w' a' s k' b' 0 (ints (picks (ix xs) n (lim (ix xs) n s) s 0)) ∧ Below w.heap.size w w' := by
 obtain ⟨i0, hi, hz0, hz1, hz2⟩ := info_parts info_int'
 have hl := h.len
 have hcb := costs_bd hx
 have HCB := Lib.hid hcb
 have HC0 : Hid (∀ i, 0 ≤ ix xs i) := Lib.hid fun i => (hcb i).1
 have HX := Lib.hid hx
 obtain ⟨n1, n2⟩ := hn
 obtain ⟨s1, s2⟩ := hs
 have g1 : ((s : Int) < 1) = False := by simp; omega
 have g2 : ((s : Int) > 6) = False := by simp; omega
 have g3 : ((n : Int) < 1) = False := by simp; omega
 have g4 : ((n : Int) > 12) = False := by simp; omega
 have g5 : ((s : Int) > (n : Int)) = False := by simp; omega
 obtain rfl := h.ptr (by omega)
 have hlb := h.lt (by omega)
 clear hcb hx hl
 go_enter Try.func13, Try.ntmps13
 go_wp2_with fail
 refine (costly_any xs _ _ _ _ _ _ ((h.alloc _).alloc _)).mono ?_
 rintro e w1 ⟨rfl, rfl⟩
 rw [errV_nil HX.out]
 go_wp2
 obtain ⟨wA, hwA, bC, bS, bN, bT, hbA⟩ : ∃ wA, (((w.alloc (.cells #[.slice (some ⟨b, o, none⟩) n k] 26)).alloc (.cells #[.int .i64 s] 3)).alloc (.cells #[.int .i64 n] 3)).alloc (.cells #[.func (.func 42) #[] #[.pointer (some ⟨w.heap.size + 1 + 1, 0, none⟩), .pointer (some ⟨w.heap.size, 0, none⟩)]] 103) = wA ∧
   Box wA w.heap.size [.slice (some ⟨b, o, none⟩) n k] 26 ∧ Box wA (w.heap.size + 1) [.int .i64 s] 3 ∧ Box wA (w.heap.size + 1 + 1) [.int .i64 n] 3 ∧ Box wA (w.heap.size + 1 + 1 + 1) [.func (.func 42) #[] #[.pointer (some ⟨w.heap.size + 1 + 1, 0, none⟩), .pointer (some ⟨w.heap.size, 0, none⟩)]] 103 ∧ Below w.heap.size w wA :=
  ⟨_, rfl, ((((Box.new _ _ _).alloc _).alloc _).alloc _), (((Box.new' _ _ _ _ (by simp)).alloc _).alloc _), ((Box.new' _ _ _ _ (by simp)).alloc _), Box.new' _ _ _ _ (by simp), Below.x0⟩
 rw [hwA]
 have hA := h.keep hbA
 have cC := bC.cell 0
 have cS := bS.cell 0
 have cN := bN.cell 0
 have cT := bT.cell 0
 clear hwA
 go_loop [10, 52] (fun u i => ∃ t : Nat, t ≤ n ∧ i = .int .i64 t ∧ u = .int .i64 (sg (ix xs) 0 t)) (fun _ i => n - (intOf i).toNat)
 case atStart => exact ⟨0, Nat.zero_le _, rfl, rfl⟩
 case round =>
  obtain ⟨t, ht, rfl, rfl⟩ := hrel
  have hsb := all_bd HCB.out ht n2
  obtain ⟨hsb1, hsb2⟩ := hsb
  by_cases hlt : t < n
  ·have hc := hA.cell t hlt
   obtain ⟨c0, hc0⟩ : ∃ c0, ix xs t = c0 := ⟨_, rfl⟩
   obtain ⟨hx1, hx2⟩ := HCB.out t
   rw [hc0] at hc hx1 hx2
   have HC := Lib.hid hc0
   clear hc0
   go_wp2
   go_round
   case rel => exact ⟨t + 1, by omega, by go_num, by rw [sg_succ, Nat.zero_add, HC.out]⟩
   case measure => simp [intOf]; omega
  ·obtain rfl : n = t := by omega
   obtain ⟨A, hAq⟩ : ∃ A : Nat, sg (ix xs) 0 n = A := ⟨(sg (ix xs) 0 n).toNat, by omega⟩
   rw [hAq] at hsb1 hsb2 ⊢
   have HA : Hid ((sg (ix xs) 0 n).toNat = A) := Lib.hid (by omega)
   have hL0 := lim_le (c := ix xs) (n := n) (s := s)
   have hLA : lim (ix xs) n s ≤ A := by omega
   have HLC : Hid ((List.range A).countP (fun (i : Nat) => !decide (tl (ix xs) n (i : Int) n ≤ s)) = lim (ix xs) n s) := Lib.hid (by unfold lim; rw [HA.out])
   clear hAq hlt hL0
   go_wp2_with fail
   refine (search_any (fun i => decide (tl (ix xs) n (i : Int) n ≤ s)) A _ _ wA (by omega) (fun i W hi hW => best2_any xs i _ n k b o _ _ _ _ s _ _ W (bN.keep hW) (bC.keep hW) (bT.keep hW) (bS.keep hW) (hA.keep hW) ⟨n1, n2⟩ HCB.out (by omega) |>.mono fun e w' ⟨h1, h2⟩ => ⟨h1, hW.trans (h2.mono hW.size)⟩) (fun u v h1 h2 h3 => decide_eq_true (tl_more HC0.out (by omega) (by omega) hsn (of_decide_eq_true h3)))).mono ?_
   rintro e w1 ⟨rfl, hb1⟩
   rw [HLC.out]
   have hL1 := lim_ok HC0.out s1 hsn
   obtain ⟨m, hm⟩ : ∃ m, lim (ix xs) n s = m := ⟨_, rfl⟩
   rw [hm] at hL1 hLA ⊢
   have HM := Lib.hid hm
   have HL1 := Lib.hid hL1
   clear hm hL1
   replace bC := bC.keep hb1
   replace bS := bS.keep hb1
   replace bN := bN.keep hb1
   replace bT := bT.keep hb1
   replace hA := hA.keep hb1
   have hbB : Below w.heap.size w w1 := hbA.trans (hb1.mono hbA.size)
   clear cC cS cN cT
   have cT := bT.cell 0
   go_wp2_with fail
   refine (tails_any xs m _ n k b o _ _ w1 bN bC hA ⟨n1, n2⟩ HCB.out (by omega)).mono ?_
   rintro e w2 ⟨q, rfl, hq, Bq, hb2⟩
   replace bC := bC.keep hb2
   replace bS := bS.keep hb2
   replace bN := bN.keep hb2
   replace hA := hA.keep hb2
   replace hbB : Below w.heap.size w w2 := hbB.trans (hb2.mono hbB.size)
   clear cT bT hbA
   have cC := bC.cell 0
   have cS := bS.cell 0
   have cN := bN.cell 0
   go_wp2
   have hp0 : picks (ix xs) n m s 0 = [] ++ picks (ix xs) n m s 0 := rfl
   have HP0 := Lib.hid hp0
   clear hp0 cC
   go_loopw [15, 16, 17] (fun v u i wr => ∃ (r at0 : Nat) (pre : List Nat) (v0 : Value), v0 = v ∧ u = .int .i64 at0 ∧ i = .int .i64 ((r : Int) - 1) ∧ wr.ownsRow w2.heap.size 3 1 v0 pre.length ((ints pre).map (Value.int .i64)) ∧ Hid (picks (ix xs) n m s 0 = pre ++ picks (ix xs) n m r at0) ∧ Hid (Fits (ix xs) n m r at0) ∧ pre.length + r = s ∧ Below w2.heap.size w2 wr) (fun _ _ i _ => (intOf i + 1).toNat)
   case atStart => exact ⟨s, 0, [], _, rfl, rfl, rfl, World.ownsRow_nil _ _ _ _, HP0, HL1, by simp, Below.x0⟩
   case round =>
    obtain ⟨r, at0, pre, v, rfl, rfl, rfl, hown, hpk, hfit, hpl, hbr⟩ := hrel
    cases r with
    | zero =>
     have hri : ((0 : Nat) : Int) - 1 = -1 := by omega
     rw [hri]
     clear hri
     have hps : pre.length = s := by omega
     have hq : picks (ix xs) n m s 0 = pre := by rw [hpk.out]; simp [picks]
     have HQ := Lib.hid hq
     have HPS := Lib.hid hps
     clear hq hps
     obtain ⟨a', k', b', hv, hb', hi'⟩ := IntsAt.of_own hown
     have HV := Lib.hid hv
     clear hv
     go_wp2
     go_ret3
     refine ⟨v, a', k', b', by rw [HM.out]; rfl, by rw [HV.out, HPS.out], ?_, ?_, hbB.trans (hbr.mono hbB.size)⟩
     ·have := hb' (by have := HPS.out; omega)
      have := hbB.size
      omega
     ·rw [HM.out, HQ.out]
      have := HPS.out
      rw [this] at hi'
      exact hi'
    | succ r =>
     have hri : ((r + 1 : Nat) : Int) - 1 = (r : Int) := by omega
     rw [hri]
     have hr0 : ((r : Int) ≥ 0) = True := by simp
     obtain ⟨j0, hj1, hj2, hj3, hj4, hj5⟩ := pick_some HC0.out (show (0 : Int) ≤ (m : Int) by omega) hfit.out
     have HJ1 := Lib.hid hj1
     have HJ3 := Lib.hid hj3
     have HJ4 := Lib.hid hj4
     have HJ5 := Lib.hid hj5
     clear hj1 hj3 hj4 hj5 hri
     replace bC := bC.keep hbr
     replace bN := bN.keep hbr
     replace hA := hA.keep hbr
     replace Bq := Bq.keep hbr
     have cC := bC.cell 0
     have cN := bN.cell 0
     go_wp2
     go_loopw [15, 16, 18, 19] (fun v' u' su en wi => ∃ j : Nat, j ≤ j0 ∧ su = .int .i64 (sg (ix xs) at0 j) ∧ en = .int .i64 ((at0 : Int) + 1 + j) ∧ v' = v ∧ u' = .int .i64 at0 ∧ wr = wi) (fun _ _ _ en _ => n + 1 - (intOf en).toNat)
     case atStart => exact ⟨0, Nat.zero_le _, rfl, by simp, rfl, rfl, rfl⟩
     case round =>
      obtain ⟨j, hj, rfl, rfl, rfl, rfl, rfl⟩ := hrel
      have hlt : at0 + j < n := by omega
      have hc := hA.cell (at0 + j) hlt
      have hki : ((at0 : Int) + 1 + (j : Int)) - 1 = ((at0 + j : Nat) : Int) := by omega
      obtain ⟨c0, hc0⟩ : ∃ c0, ix xs (at0 + j) = c0 := ⟨_, rfl⟩
      obtain ⟨hx1, hx2⟩ := HCB.out (at0 + j)
      rw [hc0] at hc hx1 hx2
      have hsb := sg_bd HCB.out at0 j
      have hsb1 : 0 ≤ sg (ix xs) at0 j := hsb.1
      have hsb2 : sg (ix xs) at0 j ≤ 12000000 := by omega
      have hsn1 : sg (ix xs) at0 (j + 1) = sg (ix xs) at0 j + c0 := by rw [sg_succ, hc0]
      have HSN := Lib.hid hsn1
      clear hsb hc0 hsn1
      by_cases hle : sg (ix xs) at0 j + c0 ≤ (m : Int)
      ·have HLE := Lib.hid hle
       by_cases hr : r = 0
       ·have e1 : ((r : Int) == 0) = true := by simp [hr]
        have e2 : (0 < r) = False := by simp [hr]
        by_cases hen : at0 + 1 + j = n
        ·have e3 : (((at0 : Int) + 1 + (j : Int)) == (n : Int)) = true := by simp; omega
         obtain rfl : j0 = j := by
          rcases Nat.lt_or_ge j j0 with h1 | h1
          ·exact absurd ((picks_last (by omega)).2 ⟨by rw [HSN.out]; exact hle, hen⟩) (by have := HJ5.out j h1; rw [hr] at this; exact this)
          ·omega
         clear hr hen
         go_wp2_with (at_builtin; (refine wpList_append_ints rfl (.tmp 114) (.tmp 116) 26 rfl w2.heap.size 3 i0 Try.underlying26 hi hz0 hz1 hz2 _ pre.length (ints pre) rfl (hown.alloc _) _ 1 1 wr.heap.size 0 [(at0 : Int) + 1 + (j0 : Int)] rfl (ints1 (Box.new _ _ 3)) (by omega) (by have := hbr.size; simp; omega) ?_))
         intro v' w' hown' hgrow'
         have hbn : Below w2.heap.size w2 w' := Below.grown (Below.al hbr _) hgrow' (by have := hbr.size; simp; omega) (fun k hk => (hown.lt k hk).1)
         go_wp2
         go_roundw
         case rel => exact ⟨r, at0 + 1 + j0, pre ++ [at0 + 1 + j0], v', rfl, by go_num, rfl, by
          rw [ints_snoc, List.length_append]
          rw [show ((at0 + 1 + j0 : Nat) : Int) = (at0 : Int) + 1 + (j0 : Int) by omega]
          rw [List.map_append]
          exact hown', Lib.hid (by rw [hpk.out, HJ1.out, List.append_assoc]; rfl), HJ3, by rw [List.length_append]; have h1 : [at0 + 1 + j0].length = 1 := rfl; omega, hbn⟩
         case measure => simp [intOf] <;> omega
        ·have e3 : (((at0 : Int) + 1 + (j : Int)) == (n : Int)) = false := by simp; omega
         have hjj : j < j0 := by
          rcases Nat.lt_or_ge j j0 with h1 | h1
          ·exact h1
          ·obtain rfl : j0 = j := by omega
           have h2 := HJ4.out
           rw [hr] at h2
           exact absurd ((picks_last hj2).1 h2).2 hen
         clear hr hen
         go_wp2
         go_roundw
         case rel => exact ⟨j + 1, by omega, by rw [HSN.out], by go_num, rfl, rfl, (by first | rfl | trivial)⟩
         case measure => simp [intOf]; omega
       ·have e1 : ((r : Int) == 0) = false := by simp [hr]
        have e2 : (0 < r) = True := by simp; omega
        by_cases hge : r ≤ n - (at0 + 1 + j)
        ·have e3 : ((n : Int) - ((at0 : Int) + 1 + (j : Int)) ≥ (r : Int)) = True := by simp; omega
         have ct := Bq.icell (k := at0 + 1 + j) (by rw [upto_length]; omega)
         rw [upto_ix (by omega)] at ct
         have htv : tailAt (ix xs) n m n (at0 + 1 + j) = (tl (ix xs) n m (n - (at0 + 1 + j)) : Int) := by unfold tailAt; rw [if_pos (by omega)]
         rw [htv] at ct
         obtain ⟨u0, hu0⟩ : ∃ u0, tl (ix xs) n m (n - (at0 + 1 + j)) = u0 := ⟨_, rfl⟩
         rw [hu0] at ct
         have HU := Lib.hid hu0
         have hk3 : ((at0 : Int) + 1 + (j : Int)).toNat = at0 + 1 + j := by omega
         have hk4 : (0 : Int) ≤ (at0 : Int) + 1 + (j : Int) := by omega
         have hk5 : (at0 : Int) + 1 + (j : Int) < (n : Int) + 1 := by omega
         clear htv hu0
         by_cases hul : u0 ≤ r
         ·have e4 : decide (u0 ≤ r) = true := decide_eq_true hul
          obtain rfl : j0 = j := by
           rcases Nat.lt_or_ge j j0 with h1 | h1
           ·exact absurd (show picksOk _ _ _ _ _ _ from ⟨by rw [HSN.out]; exact hle, by rw [HU.out]; exact hul, hge⟩) (HJ5.out j h1)
           ·omega
          clear hr hge hul
          go_wp2_with (at_builtin; (refine wpList_append_ints rfl (.tmp 114) (.tmp 116) 26 rfl w2.heap.size 3 i0 Try.underlying26 hi hz0 hz1 hz2 _ pre.length (ints pre) rfl (hown.alloc _) _ 1 1 wr.heap.size 0 [(at0 : Int) + 1 + (j0 : Int)] rfl (ints1 (Box.new _ _ 3)) (by omega) (by have := hbr.size; simp; omega) ?_))
          intro v' w' hown' hgrow'
          have hbn : Below w2.heap.size w2 w' := Below.grown (Below.al hbr _) hgrow' (by have := hbr.size; simp; omega) (fun k hk => (hown.lt k hk).1)
          go_wp2
          go_roundw
          case rel => exact ⟨r, at0 + 1 + j0, pre ++ [at0 + 1 + j0], v', rfl, by go_num, rfl, by
           rw [ints_snoc, List.length_append]
           rw [show ((at0 + 1 + j0 : Nat) : Int) = (at0 : Int) + 1 + (j0 : Int) by omega]
           rw [List.map_append]
           exact hown', Lib.hid (by rw [hpk.out, HJ1.out, List.append_assoc]; rfl), HJ3, by rw [List.length_append]; have h1 : [at0 + 1 + j0].length = 1 := rfl; omega, hbn⟩
          case measure => simp [intOf] <;> omega
         ·have e4 : decide (u0 ≤ r) = false := decide_eq_false hul
          have hjj : j < j0 := by
           rcases Nat.lt_or_ge j j0 with h1 | h1
           ·exact h1
           ·obtain rfl : j0 = j := by omega
            exact absurd (by rw [← HU.out]; exact HJ4.out.2.1) hul
          clear hr hge hul
          go_wp2
          go_roundw
          case rel => exact ⟨j + 1, by omega, by rw [HSN.out], by go_num, rfl, rfl, (by first | rfl | trivial)⟩
          case measure => simp [intOf]; omega
        ·have e3 : ((n : Int) - ((at0 : Int) + 1 + (j : Int)) ≥ (r : Int)) = False := by simp; omega
         have hjj : j < j0 := by
          rcases Nat.lt_or_ge j j0 with h1 | h1
          ·exact h1
          ·obtain rfl : j0 = j := by omega
           exact absurd HJ4.out.2.2 hge
         clear hr hge
         go_wp2
         go_roundw
         case rel => exact ⟨j + 1, by omega, by rw [HSN.out], by go_num, rfl, rfl, (by first | rfl | trivial)⟩
         case measure => simp [intOf]; omega
      ·have hle' : (sg (ix xs) at0 j + c0 ≤ (m : Int)) = False := by simp; omega
       have hjj : j < j0 := by
        rcases Nat.lt_or_ge j j0 with h1 | h1
        ·exact h1
        ·obtain rfl : j = j0 := by omega
         exact absurd HJ4.out.1 (by rw [HSN.out]; exact hle)
       clear hle
       go_wp2
       go_roundw
       case rel => exact ⟨j + 1, by omega, by rw [HSN.out], by go_num, rfl, rfl, (by first | rfl | trivial)⟩
       case measure => simp [intOf]; omega
end Go.Proofs.Ytchngeagnlngaaa
end
