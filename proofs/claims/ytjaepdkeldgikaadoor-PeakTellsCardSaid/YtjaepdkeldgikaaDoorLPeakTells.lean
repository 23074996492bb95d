/- PeakTells: how much each stage of any plan keeps at once is the document's: the law returns true, and the input reads as it did. No condition. -/
import Derived.Test.YtjaepdkeldgikaaDoorCards
import Derived.Test.YtjaepdkeldgikaaDoorTie
import Derived.Test.YtjaepdkeldgikaaDoorRPeak2
import Derived.Test.YtjaepdkeldgikaaDoorRPlan5
import Derived.Test.YtjaepdkeldgikaaDoorOpenP
import Derived.Test.YtjaepdkeldgikaaDoorOpenI
import Derived.Test.YtjaepdkeldgikaaDoorTold
import Derived.Deep.DeepHandedRow
set_option linter.unusedVariables false
set_option linter.unusedSimpArgs false
set_option linter.unusedSectionVars false
namespace Gal
theorem rep_succ (t : Nat) : List.replicate (t + 1) (1 : Int) = List.replicate t 1 ++ [1] := List.replicate_succ'
theorem rep_cost (m : Nat) : costsFault (List.replicate m 1) = 0 := by
  unfold costsFault
  rw [if_pos]
  refine costsTo_iff.2 fun k hk => ?_
  rw [List.length_replicate] at hk
  simp [ix, hk]
theorem now_congr {sz sz' : Int → Int} {l : List ActD} (h : ∀ j, j < l.length → sz (ax l j).2 = sz' (ax l j).2) : ∀ i, i ≤ l.length → nowTo sz l i = nowTo sz' l i
  | 0, _ => rfl
  | i + 1, hi => by rw [nowTo, nowTo, now_congr h i (by omega), h i (by omega)]
theorem hi_congr {sz sz' : Int → Int} {l : List ActD} (h : ∀ j, j < l.length → sz (ax l j).2 = sz' (ax l j).2) : ∀ i, i ≤ l.length → hiTo sz l i = hiTo sz' l i
  | 0, _ => rfl
  | i + 1, hi => by rw [hiTo, hiTo, hi_congr h i (by omega), now_congr h (i + 1) hi]
theorem peaks_ix {sz : Int → Int} {p : PlanD} {t : Nat} (h : t < p.length) : ix (peaksOf sz p) t = pkGo sz 0 0 (px p t) := by
  unfold ix peaksOf
  rw [List.getElem?_map, px_get h]
  rfl
theorem ones_hi {m : Nat} {l : List ActD} (h : actsFault m l = 0) : pkGo (fun _ => 1) 0 0 l = hiTo (szOf (List.replicate m 1)) l l.length := by
  rw [pk_is (fun _ => by omega)]
  refine hi_congr (fun j hj => ?_) _ (Nat.le_refl _)
  have h1 := (actsFault_ok h).1 j hj
  have : (ax l j).2.toNat < m := by have := h1.2; omega
  simp [szOf, ix, this]
end Gal
namespace Go.Proofs.YtjaepdkeldgikaaDoor.lawPeakTells
open Go.ChangeShapes Go.WideShapes Go.ChangeAt Go.RowKit Gal
set_option maxRecDepth 100000
set_option maxHeartbeats 8000000
theorem walk (p : PlanD) (v : Value) (M : Int) (xs : List Int) (vx : Value) (w : World) (hp : PlanV w v p) (hM : (Lit.int IntKind.i64 M).wf = true) (hx : IntsV w vx xs) (hh : Handle w) :
    Calls Tryd.prog 5 #[v, .int .i64 M, vx] w fun e w' => e = .returned (.bool true) ∧ Below w.heap.size w w' := by
  obtain ⟨a, n, k, b, o, rfl, h⟩ := hp
  obtain ⟨a', n', k', b', o', rfl, h'⟩ := hx
  obtain ⟨i0, hi, hz0, hz1, hz2⟩ := info_parts info_int'
  clear hM
  have hmx' := h'.max
  have hmx := h.max
  unfold maxLen at hmx hmx'
  have HL := Lib.hid h.len
  have HL' := Lib.hid h'.len
  obtain ⟨V, hV⟩ : ∃ V, planFault M p = V := ⟨_, rfl⟩
  have HV := Lib.hid hV
  clear hV
  go_enter Tryd.func5, Tryd.ntmps5
  go_wp2_with fail
  refine (refPlanFault_any p M _ n k b o _ _ h).mono ?_
  rintro e w1 ⟨rfl, hbz⟩
  rw [HV.out]
  replace h := h.keep hbz
  replace h' := h'.keep hbz
  replace hh := hh.keep hbz
  by_cases hz : V = 0
  · subst hz
    obtain ⟨hnb, haf⟩ := stage_len (m := M.toNat) (p := p) (by
      have := HV.out
      by_cases h1 : 0 ≤ M
      · rw [Int.toNat_of_nonneg h1]; exact this
      · rw [planFault_1 (Or.inl (Or.inl (by omega)))] at this; exact absurd this (by decide))
    obtain ⟨m, rfl⟩ : ∃ m : Nat, M = m := ⟨M.toNat, by
      have := HV.out
      by_cases h1 : 0 ≤ M
      · omega
      · rw [planFault_1 (Or.inl (Or.inl (by omega)))] at this; exact absurd this (by decide)⟩
    rw [Int.toNat_natCast] at hnb haf
    obtain ⟨⟨m1, m12⟩, n1, n6⟩ : (1 ≤ m ∧ m ≤ 12) ∧ 1 ≤ n ∧ n ≤ 6 := by unfold planBad at hnb; rw [HL.out] at hnb; omega
    rw [HL.out] at haf
    have HAF := Lib.hid haf
    clear hnb haf
    go_wp2_with fail
    refine (peaks_ok p m _ n k b o _ _ h HV.out).mono ?_
    rintro e w2 ⟨aL, kL, bL, rfl, _, hl, hb2⟩
    replace h := h.keep hb2
    replace h' := h'.keep hb2
    replace hh := hh.keep hb2
    replace hbz : Below w.heap.size w w2 := (by repeat (first | fail | (with_reducible exact Below.refl _ _) | (with_reducible exact hbz) | (with_reducible refine Below.al ?_ _) | (with_reducible refine Below.drN ?_ _) | (with_reducible refine Below.drew ?_) | (with_reducible refine Below.st ?_ ?_ _; rotate_left 1; (first | (dsimp only; omega) | omega | (simp; omega) | simp)) | (with_reducible refine Below.go ?_ hb2) | exact Below.refl _ _ | exact hbz))
    clear hb2
    go_wp2_with fail
    refine (error_any 0 0 _ hh).mono ?_
    rintro e w3 ⟨rfl, hb3⟩
    rw [decide_eq_true rfl]
    replace h := h.keep hb3
    replace h' := h'.keep hb3
    replace hl := hl.keep hb3
    replace hh := hh.keep hb3
    replace hbz : Below w.heap.size w w3 := (by repeat (first | fail | (with_reducible exact Below.refl _ _) | (with_reducible exact hbz) | (with_reducible refine Below.al ?_ _) | (with_reducible refine Below.drN ?_ _) | (with_reducible refine Below.drew ?_) | (with_reducible refine Below.st ?_ ?_ _; rotate_left 1; (first | (dsimp only; omega) | omega | (simp; omega) | simp)) | (with_reducible refine Below.go ?_ hb3) | exact Below.refl _ _ | exact hbz))
    clear hb3
    by_cases hnm : n' = m
    · obtain rfl : m = n' := hnm.symm
      have e0 : ((m : Int) != (m : Int)) = false := by simp
      have enn : ((n : Int) != (n : Int)) = false := by simp
      go_wp2_with fail
      refine (peakHeld_any p xs _ _ n k b o m k' b' o' _ _ h h' HV.out).mono ?_
      rintro e w4 ⟨hcase, hb4⟩
      replace h := h.keep hb4
      replace h' := h'.keep hb4
      replace hl := hl.keep hb4
      replace hh := hh.keep hb4
      replace hbz : Below w.heap.size w w4 := (by repeat (first | fail | (with_reducible exact Below.refl _ _) | (with_reducible exact hbz) | (with_reducible refine Below.al ?_ _) | (with_reducible refine Below.drN ?_ _) | (with_reducible refine Below.drew ?_) | (with_reducible refine Below.st ?_ ?_ _; rotate_left 1; (first | (dsimp only; omega) | omega | (simp; omega) | simp)) | (with_reducible refine Below.go ?_ hb4) | exact Below.refl _ _ | exact hbz))
      clear hb4 hnm
      rcases hcase with ⟨hC, rfl⟩ | ⟨hC, aH, kH, bH, rfl, _, hH⟩
      · have HC := Lib.hid hC
        clear hC
        go_wp2
        go_loopw [12, 13] (fun f i wr => ∃ (t : Nat) (f0 : Int), t ≤ m ∧ f = .int .i64 f0 ∧ i = .int .i64 t ∧ wr = w4.drewN 0 ∧ Hid ((f0 = 0 ∧ costsTo xs t) ∨ f0 = 1)) (fun _ i _ => m - (intOf i).toNat)
        case atStart => exact ⟨0, 0, Nat.zero_le _, rfl, rfl, rfl, Lib.hid (Or.inl ⟨rfl, trivial⟩)⟩
        case round =>
          obtain ⟨t, f0, ht, rfl, rfl, rfl, hok⟩ := hrel
          replace h : RowAt Form.plan (w4.drewN 0) _ _ n k b o p := h
          by_cases hlt : t < m
          · rcases hok.out with ⟨rfl, hok1⟩ | rfl
            · have cx := h'.cell t hlt
              obtain ⟨x, hx⟩ : ∃ x, ix xs t = x := ⟨_, rfl⟩
              rw [hx] at cx
              have HNX : Hid (0 ≤ x ∧ x ≤ 1000000 → costsTo xs (t + 1)) := Lib.hid fun h1 => ⟨hok1, by rw [hx]; exact h1.1, by rw [hx]; exact h1.2⟩
              obtain rfl := h'.ptr (by omega)
              clear hx hok1 hok
              by_cases g1 : x < 0
              · skip
                go_wp2
                go_roundw
                case rel => exact ⟨t + 1, 1, by omega, rfl, by go_num, by trivial, Lib.hid (Or.inr rfl)⟩
                case measure => simp [intOf]; omega
              · have e2 : (x < 0) = False := by simp; omega
                by_cases g2 : x > 1000000
                · skip
                  go_wp2
                  go_roundw
                  case rel => exact ⟨t + 1, 1, by omega, rfl, by go_num, by trivial, Lib.hid (Or.inr rfl)⟩
                  case measure => simp [intOf]; omega
                · have e3 : (x > 1000000) = False := by simp; omega
                  have HN := Lib.hid (HNX.out ⟨by omega, by omega⟩)
                  clear g1 g2
                  go_wp2
                  go_roundw
                  case rel => exact ⟨t + 1, 0, by omega, rfl, by go_num, by trivial, Lib.hid (Or.inl ⟨rfl, HN.out⟩)⟩
                  case measure => simp [intOf]; omega
            · skip
              go_wp2_with fail
              refine (error_any 1 1 _ hh).mono ?_
              rintro e wt ⟨rfl, hbt⟩
              rw [decide_eq_true rfl]
              replace hh := hh.keep hbt
              replace hbz : Below w.heap.size w wt := (by repeat (first | fail | (with_reducible exact Below.refl _ _) | (with_reducible exact hbz) | (with_reducible refine Below.al ?_ _) | (with_reducible refine Below.drN ?_ _) | (with_reducible refine Below.drew ?_) | (with_reducible refine Below.st ?_ ?_ _; rotate_left 1; (first | (dsimp only; omega) | omega | (simp; omega) | simp)) | (with_reducible refine Below.go ?_ hbt) | exact Below.refl _ _ | exact hbz))
              replace h := h.keep hbt
              replace hl := hl.keep hbt
              clear hbt
              obtain ⟨wz, rfl⟩ : ∃ wz : World, wz = wt := ⟨_, rfl⟩
              go_wp2
              go_loopw [14, 15] (fun v i wr => ∃ (t : Nat) (v0 : Value), v0 = v ∧ t ≤ m ∧ i = .int .i64 t ∧ wr.ownsRow wz.heap.size 3 1 v0 t ((List.replicate t (1 : Int)).map (Value.int .i64)) ∧ Below wz.heap.size wz wr) (fun _ i _ => m - (intOf i).toNat)
              case atStart => exact ⟨0, _, rfl, Nat.zero_le _, rfl, World.ownsRow_nil _ _ _ _, (by repeat (first | fail | (with_reducible exact Below.refl _ _) | (with_reducible refine Below.al ?_ _) | (with_reducible refine Below.drN ?_ _) | (with_reducible refine Below.drew ?_) | (with_reducible refine Below.st ?_ ?_ _; rotate_left 1; (first | (dsimp only; omega) | omega | (simp; omega) | simp)) | exact Below.refl _ _))⟩
              case round =>
                obtain ⟨t, v, rfl, ht, rfl, hown, hbr⟩ := hrel
                by_cases hlt : t < m
                · go_wp2_with (at_builtin; (refine wpList_append_ints rfl (.tmp 103) (.tmp 104) 39 rfl wz.heap.size 3 i0 Tryd.underlying39 hi hz0 hz1 hz2 _ t (List.replicate t 1) rfl (hown.alloc _) _ 1 1 wr.heap.size 0 [1] rfl (ints1 (Box.new _ _ 3)) (by omega) (by have := hbr.size; simp; omega) ?_))
                  intro v' w' hown' hgrow'
                  have hbn : Below wz.heap.size wz w' := Below.grown (Below.al hbr _) hgrow' (by have := hbr.size; simp; omega) (fun k hk => (hown.lt k hk).1)
                  go_wp2
                  go_roundw
                  case rel => exact ⟨t + 1, v', rfl, by omega, by go_num, by rw [rep_succ]; simpa using hown', hbn⟩
                  case measure => simp [intOf]; omega
                · obtain rfl : m = t := by omega
                  obtain ⟨a3, k3, b3, hv, _, hi3⟩ := IntsAt.of_own hown
                  subst hv
                  have hbm : Below w.heap.size w wr := hbz.trans (hbr.mono hbz.size)
                  replace h := h.keep hbr
                  replace hl := hl.keep hbr
                  skip
                  clear hown hbr hbz
                  obtain ⟨wm, rfl⟩ : ∃ wm : World, wm = wr := ⟨_, rfl⟩
                  go_wp2
                  go_loopw [16] (fun i wr => ∃ t q : Nat, t ≤ n ∧ i = .int .i64 t ∧ wr = wm.drewN q) (fun i _ => n - (intOf i).toNat)
                  case atStart => exact ⟨0, 0, Nat.zero_le _, rfl, rfl⟩
                  case round =>
                    obtain ⟨t, q, ht, rfl, rfl⟩ := hrel
                    by_cases hlt : t < n
                    · obtain rfl := h.ptr (by omega)
                      obtain ⟨a1, n1, k1, b1, o1, c0, hr1⟩ := plan_cell h hlt
                      have hmx1 := hr1.max
                      unfold maxLen at hmx1
                      have HL1 := Lib.hid hr1.len
                      go_wp2
                      go_loopw [17, 18, 19] (fun x y i wr => ∃ (j q : Nat) (X Y : Int), j ≤ n1 ∧ x = .int .i64 X ∧ y = .int .i64 Y ∧ i = .int .i64 j ∧ wr = wm.drewN q ∧ Hid (X = hiTo (szOf (List.replicate m 1)) (px p t) j) ∧ Hid (True)) (fun _ _ i _ => n1 - (intOf i).toNat)
                      case atStart => exact ⟨0, q, 0, 0, Nat.zero_le _, rfl, rfl, rfl, rfl, Lib.hid rfl, Lib.hid (by first | exact trivial | rfl)⟩
                      case round =>
                        obtain ⟨j, q2, X, Y, hj, rfl, rfl, rfl, rfl, hX, hY⟩ := hrel
                        by_cases hj2 : j < n1
                        · go_wp2_with fail
                          refine (kept_ok (px p t) (List.replicate m 1) m j _ _ n1 k1 b1 o1 m k3 b3 0 _ _ (hr1.drewN _) (hi3.drewN _) (HAF.out t hlt) m12 rfl (rep_cost m) hj2).mono ?_
                          rintro e wk ⟨rfl, q3, rfl⟩
                          obtain ⟨N1, hN1⟩ : ∃ N1, nowTo (szOf (List.replicate m 1)) (px p t) (j + 1) = N1 := ⟨_, rfl⟩
                          have HN1 := Lib.hid hN1
                          rw [hN1]
                          clear hN1
                          by_cases g1 : X < N1
                          · have HX1 : Hid (N1 = hiTo (szOf (List.replicate m 1)) (px p t) (j + 1)) := Lib.hid (by rw [hiTo, HN1.out, ← hX.out]; omega)
                            have e1 : N1 > X := g1
                            go_wp2
                            go_roundw
                            case rel => exact ⟨j + 1, _, N1, Y, by omega, rfl, rfl, by go_num, rfl, HX1, Lib.hid trivial⟩
                            case measure => simp [intOf]; omega
                          · have HX1 : Hid (X = hiTo (szOf (List.replicate m 1)) (px p t) (j + 1)) := Lib.hid (by rw [hiTo, HN1.out, ← hX.out]; omega)
                            have e1 : (N1 > X) = False := by simp; omega
                            have e2 : (X < N1) = False := by simp; omega
                            clear g1
                            go_wp2
                            go_roundw
                            case rel => exact ⟨j + 1, _, X, Y, by omega, rfl, rfl, by go_num, rfl, HX1, Lib.hid trivial⟩
                            case measure => simp [intOf]; omega
                        · obtain rfl : n1 = j := by omega
                          have cl := hl.cell t hlt
                          rw [peaks_ix (by rw [HL.out]; exact hlt), ones_hi (HAF.out t hlt), HL1.out, ← hX.out, Nat.zero_add] at cl
                          have e6 : (X != X) = false := by simp
                          obtain rfl := hl.ptr (by omega)
                          go_wp2
                          go_roundw
                          case rel => exact ⟨t + 1, _, by omega, by go_num, rfl⟩
                          case measure => simp [intOf]; omega
                    · obtain rfl : n = t := by omega
                      go_wp2
                      go_ret
                      exact ⟨rfl, below_drewN hbm _⟩
          · obtain rfl : m = t := by omega
            obtain rfl : f0 = 1 := by
              rcases hok.out with ⟨_, h1⟩ | h1
              · exfalso
                have h2 := HC.out
                unfold costsFault at h2
                rw [if_pos (by rw [HL'.out]; exact h1)] at h2
                exact absurd h2 (by decide)
              · exact h1
            go_wp2_with fail
            refine (error_any 1 1 _ hh).mono ?_
            rintro e wt ⟨rfl, hbt⟩
            rw [decide_eq_true rfl]
            replace hh := hh.keep hbt
            replace hbz : Below w.heap.size w wt := (by repeat (first | fail | (with_reducible exact Below.refl _ _) | (with_reducible exact hbz) | (with_reducible refine Below.al ?_ _) | (with_reducible refine Below.drN ?_ _) | (with_reducible refine Below.drew ?_) | (with_reducible refine Below.st ?_ ?_ _; rotate_left 1; (first | (dsimp only; omega) | omega | (simp; omega) | simp)) | (with_reducible refine Below.go ?_ hbt) | exact Below.refl _ _ | exact hbz))
            replace h := h.keep hbt
            replace hl := hl.keep hbt
            clear hbt
            obtain ⟨wz, rfl⟩ : ∃ wz : World, wz = wt := ⟨_, rfl⟩
            go_wp2
            go_loopw [14, 15] (fun v i wr => ∃ (t : Nat) (v0 : Value), v0 = v ∧ t ≤ m ∧ i = .int .i64 t ∧ wr.ownsRow wz.heap.size 3 1 v0 t ((List.replicate t (1 : Int)).map (Value.int .i64)) ∧ Below wz.heap.size wz wr) (fun _ i _ => m - (intOf i).toNat)
            case atStart => exact ⟨0, _, rfl, Nat.zero_le _, rfl, World.ownsRow_nil _ _ _ _, (by repeat (first | fail | (with_reducible exact Below.refl _ _) | (with_reducible refine Below.al ?_ _) | (with_reducible refine Below.drN ?_ _) | (with_reducible refine Below.drew ?_) | (with_reducible refine Below.st ?_ ?_ _; rotate_left 1; (first | (dsimp only; omega) | omega | (simp; omega) | simp)) | exact Below.refl _ _))⟩
            case round =>
              obtain ⟨t, v, rfl, ht, rfl, hown, hbr⟩ := hrel
              by_cases hlt : t < m
              · go_wp2_with (at_builtin; (refine wpList_append_ints rfl (.tmp 103) (.tmp 104) 39 rfl wz.heap.size 3 i0 Tryd.underlying39 hi hz0 hz1 hz2 _ t (List.replicate t 1) rfl (hown.alloc _) _ 1 1 wr.heap.size 0 [1] rfl (ints1 (Box.new _ _ 3)) (by omega) (by have := hbr.size; simp; omega) ?_))
                intro v' w' hown' hgrow'
                have hbn : Below wz.heap.size wz w' := Below.grown (Below.al hbr _) hgrow' (by have := hbr.size; simp; omega) (fun k hk => (hown.lt k hk).1)
                go_wp2
                go_roundw
                case rel => exact ⟨t + 1, v', rfl, by omega, by go_num, by rw [rep_succ]; simpa using hown', hbn⟩
                case measure => simp [intOf]; omega
              · obtain rfl : m = t := by omega
                obtain ⟨a3, k3, b3, hv, _, hi3⟩ := IntsAt.of_own hown
                subst hv
                have hbm : Below w.heap.size w wr := hbz.trans (hbr.mono hbz.size)
                replace h := h.keep hbr
                replace hl := hl.keep hbr
                skip
                clear hown hbr hbz
                obtain ⟨wm, rfl⟩ : ∃ wm : World, wm = wr := ⟨_, rfl⟩
                go_wp2
                go_loopw [16] (fun i wr => ∃ t q : Nat, t ≤ n ∧ i = .int .i64 t ∧ wr = wm.drewN q) (fun i _ => n - (intOf i).toNat)
                case atStart => exact ⟨0, 0, Nat.zero_le _, rfl, rfl⟩
                case round =>
                  obtain ⟨t, q, ht, rfl, rfl⟩ := hrel
                  by_cases hlt : t < n
                  · obtain rfl := h.ptr (by omega)
                    obtain ⟨a1, n1, k1, b1, o1, c0, hr1⟩ := plan_cell h hlt
                    have hmx1 := hr1.max
                    unfold maxLen at hmx1
                    have HL1 := Lib.hid hr1.len
                    go_wp2
                    go_loopw [17, 18, 19] (fun x y i wr => ∃ (j q : Nat) (X Y : Int), j ≤ n1 ∧ x = .int .i64 X ∧ y = .int .i64 Y ∧ i = .int .i64 j ∧ wr = wm.drewN q ∧ Hid (X = hiTo (szOf (List.replicate m 1)) (px p t) j) ∧ Hid (True)) (fun _ _ i _ => n1 - (intOf i).toNat)
                    case atStart => exact ⟨0, q, 0, 0, Nat.zero_le _, rfl, rfl, rfl, rfl, Lib.hid rfl, Lib.hid (by first | exact trivial | rfl)⟩
                    case round =>
                      obtain ⟨j, q2, X, Y, hj, rfl, rfl, rfl, rfl, hX, hY⟩ := hrel
                      by_cases hj2 : j < n1
                      · go_wp2_with fail
                        refine (kept_ok (px p t) (List.replicate m 1) m j _ _ n1 k1 b1 o1 m k3 b3 0 _ _ (hr1.drewN _) (hi3.drewN _) (HAF.out t hlt) m12 rfl (rep_cost m) hj2).mono ?_
                        rintro e wk ⟨rfl, q3, rfl⟩
                        obtain ⟨N1, hN1⟩ : ∃ N1, nowTo (szOf (List.replicate m 1)) (px p t) (j + 1) = N1 := ⟨_, rfl⟩
                        have HN1 := Lib.hid hN1
                        rw [hN1]
                        clear hN1
                        by_cases g1 : X < N1
                        · have HX1 : Hid (N1 = hiTo (szOf (List.replicate m 1)) (px p t) (j + 1)) := Lib.hid (by rw [hiTo, HN1.out, ← hX.out]; omega)
                          have e1 : N1 > X := g1
                          go_wp2
                          go_roundw
                          case rel => exact ⟨j + 1, _, N1, Y, by omega, rfl, rfl, by go_num, rfl, HX1, Lib.hid trivial⟩
                          case measure => simp [intOf]; omega
                        · have HX1 : Hid (X = hiTo (szOf (List.replicate m 1)) (px p t) (j + 1)) := Lib.hid (by rw [hiTo, HN1.out, ← hX.out]; omega)
                          have e1 : (N1 > X) = False := by simp; omega
                          have e2 : (X < N1) = False := by simp; omega
                          clear g1
                          go_wp2
                          go_roundw
                          case rel => exact ⟨j + 1, _, X, Y, by omega, rfl, rfl, by go_num, rfl, HX1, Lib.hid trivial⟩
                          case measure => simp [intOf]; omega
                      · obtain rfl : n1 = j := by omega
                        have cl := hl.cell t hlt
                        rw [peaks_ix (by rw [HL.out]; exact hlt), ones_hi (HAF.out t hlt), HL1.out, ← hX.out, Nat.zero_add] at cl
                        have e6 : (X != X) = false := by simp
                        obtain rfl := hl.ptr (by omega)
                        go_wp2
                        go_roundw
                        case rel => exact ⟨t + 1, _, by omega, by go_num, rfl⟩
                        case measure => simp [intOf]; omega
                  · obtain rfl : n = t := by omega
                    go_wp2
                    go_ret
                    exact ⟨rfl, below_drewN hbm _⟩
      · have HC := Lib.hid hC
        clear hC
        go_wp2
        go_loopw [12, 13] (fun f i wr => ∃ (t : Nat), t ≤ m ∧ f = .int .i64 0 ∧ i = .int .i64 t ∧ wr = w4.drewN 0) (fun _ i _ => m - (intOf i).toNat)
        case atStart => exact ⟨0, Nat.zero_le _, rfl, rfl, rfl⟩
        case round =>
          obtain ⟨t, ht, rfl, rfl, rfl⟩ := hrel
          by_cases hlt : t < m
          · have cx := h'.cell t hlt
            have hbx := costs_bd HC.out t
            obtain ⟨x, hx⟩ : ∃ x, ix xs t = x := ⟨_, rfl⟩
            rw [hx] at cx hbx
            have e2 : (x < 0) = False := by simp; omega
            have e3 : (x > 1000000) = False := by simp; omega
            obtain rfl := h'.ptr (by omega)
            clear hx hbx
            go_wp2
            go_roundw
            case rel => exact ⟨t + 1, by omega, rfl, by go_num, by trivial⟩
            case measure => simp [intOf]; omega
          · obtain rfl : m = t := by omega
            go_wp2_with fail
            refine (error_any 0 0 _ hh).mono ?_
            rintro e wt ⟨rfl, hbt⟩
            rw [decide_eq_true rfl]
            replace hh := hh.keep hbt
            replace hbz : Below w.heap.size w wt := (by repeat (first | fail | (with_reducible exact Below.refl _ _) | (with_reducible exact hbz) | (with_reducible refine Below.al ?_ _) | (with_reducible refine Below.drN ?_ _) | (with_reducible refine Below.drew ?_) | (with_reducible refine Below.st ?_ ?_ _; rotate_left 1; (first | (dsimp only; omega) | omega | (simp; omega) | simp)) | (with_reducible refine Below.go ?_ hbt) | exact Below.refl _ _ | exact hbz))
            replace h := h.keep hbt
            replace hl := hl.keep hbt
            replace hH := hH.keep hbt
            replace h' := h'.keep hbt
            clear hbt
            obtain ⟨wz, rfl⟩ : ∃ wz : World, wz = wt := ⟨_, rfl⟩
            go_wp2
            go_loopw [14, 15] (fun v i wr => ∃ (t : Nat) (v0 : Value), v0 = v ∧ t ≤ m ∧ i = .int .i64 t ∧ wr.ownsRow wz.heap.size 3 1 v0 t ((List.replicate t (1 : Int)).map (Value.int .i64)) ∧ Below wz.heap.size wz wr) (fun _ i _ => m - (intOf i).toNat)
            case atStart => exact ⟨0, _, rfl, Nat.zero_le _, rfl, World.ownsRow_nil _ _ _ _, (by repeat (first | fail | (with_reducible exact Below.refl _ _) | (with_reducible refine Below.al ?_ _) | (with_reducible refine Below.drN ?_ _) | (with_reducible refine Below.drew ?_) | (with_reducible refine Below.st ?_ ?_ _; rotate_left 1; (first | (dsimp only; omega) | omega | (simp; omega) | simp)) | exact Below.refl _ _))⟩
            case round =>
              obtain ⟨t, v, rfl, ht, rfl, hown, hbr⟩ := hrel
              by_cases hlt : t < m
              · go_wp2_with (at_builtin; (refine wpList_append_ints rfl (.tmp 103) (.tmp 104) 39 rfl wz.heap.size 3 i0 Tryd.underlying39 hi hz0 hz1 hz2 _ t (List.replicate t 1) rfl (hown.alloc _) _ 1 1 wr.heap.size 0 [1] rfl (ints1 (Box.new _ _ 3)) (by omega) (by have := hbr.size; simp; omega) ?_))
                intro v' w' hown' hgrow'
                have hbn : Below wz.heap.size wz w' := Below.grown (Below.al hbr _) hgrow' (by have := hbr.size; simp; omega) (fun k hk => (hown.lt k hk).1)
                go_wp2
                go_roundw
                case rel => exact ⟨t + 1, v', rfl, by omega, by go_num, by rw [rep_succ]; simpa using hown', hbn⟩
                case measure => simp [intOf]; omega
              · obtain rfl : m = t := by omega
                obtain ⟨a3, k3, b3, hv, _, hi3⟩ := IntsAt.of_own hown
                subst hv
                have hbm : Below w.heap.size w wr := hbz.trans (hbr.mono hbz.size)
                replace h := h.keep hbr
                replace hl := hl.keep hbr
                (replace hH := hH.keep hbr; replace h' := h'.keep hbr)
                clear hown hbr hbz
                obtain ⟨wm, rfl⟩ : ∃ wm : World, wm = wr := ⟨_, rfl⟩
                go_wp2
                go_loopw [16] (fun i wr => ∃ t q : Nat, t ≤ n ∧ i = .int .i64 t ∧ wr = wm.drewN q) (fun i _ => n - (intOf i).toNat)
                case atStart => exact ⟨0, 0, Nat.zero_le _, rfl, rfl⟩
                case round =>
                  obtain ⟨t, q, ht, rfl, rfl⟩ := hrel
                  by_cases hlt : t < n
                  · obtain rfl := h.ptr (by omega)
                    obtain ⟨a1, n1, k1, b1, o1, c0, hr1⟩ := plan_cell h hlt
                    have hmx1 := hr1.max
                    unfold maxLen at hmx1
                    have HL1 := Lib.hid hr1.len
                    go_wp2
                    go_loopw [17, 18, 19] (fun x y i wr => ∃ (j q : Nat) (X Y : Int), j ≤ n1 ∧ x = .int .i64 X ∧ y = .int .i64 Y ∧ i = .int .i64 j ∧ wr = wm.drewN q ∧ Hid (X = hiTo (szOf (List.replicate m 1)) (px p t) j) ∧ Hid (Y = hiTo (szOf xs) (px p t) j)) (fun _ _ i _ => n1 - (intOf i).toNat)
                    case atStart => exact ⟨0, q, 0, 0, Nat.zero_le _, rfl, rfl, rfl, rfl, Lib.hid rfl, Lib.hid (by first | exact trivial | rfl)⟩
                    case round =>
                      obtain ⟨j, q2, X, Y, hj, rfl, rfl, rfl, rfl, hX, hY⟩ := hrel
                      by_cases hj2 : j < n1
                      · go_wp2_with fail
                        refine (kept_ok (px p t) (List.replicate m 1) m j _ _ n1 k1 b1 o1 m k3 b3 0 _ _ (hr1.drewN _) (hi3.drewN _) (HAF.out t hlt) m12 rfl (rep_cost m) hj2).mono ?_
                        rintro e wk ⟨rfl, q3, rfl⟩
                        obtain ⟨N1, hN1⟩ : ∃ N1, nowTo (szOf (List.replicate m 1)) (px p t) (j + 1) = N1 := ⟨_, rfl⟩
                        have HN1 := Lib.hid hN1
                        rw [hN1]
                        clear hN1
                        by_cases g1 : X < N1
                        · have HX1 : Hid (N1 = hiTo (szOf (List.replicate m 1)) (px p t) (j + 1)) := Lib.hid (by rw [hiTo, HN1.out, ← hX.out]; omega)
                          have e1 : N1 > X := g1
                          go_wp2_with fail
                          refine (kept_ok (px p t) xs m j _ _ n1 k1 b1 o1 m k' b' o' _ _ (hr1.drewN _) (h'.drewN _) (HAF.out t hlt) m12 rfl HC.out hj2).mono ?_
                          rintro e wk ⟨rfl, q4, rfl⟩
                          obtain ⟨N2, hN2⟩ : ∃ N2, nowTo (szOf xs) (px p t) (j + 1) = N2 := ⟨_, rfl⟩
                          have HN2 := Lib.hid hN2
                          rw [hN2]
                          clear hN2
                          by_cases g2 : Y < N2
                          · have HY1 : Hid (N2 = hiTo (szOf xs) (px p t) (j + 1)) := Lib.hid (by rw [hiTo, HN2.out, ← hY.out]; omega)
                            have e3 : N2 > Y := g2
                            go_wp2
                            go_roundw
                            case rel => exact ⟨j + 1, _, N1, N2, by omega, rfl, rfl, by go_num, (by first | rfl | exact World.drewN_drewN _ _ _), HX1, HY1⟩
                            case measure => simp [intOf]; omega
                          · have HY1 : Hid (Y = hiTo (szOf xs) (px p t) (j + 1)) := Lib.hid (by rw [hiTo, HN2.out, ← hY.out]; omega)
                            have e3 : (N2 > Y) = False := by simp; omega
                            have e4 : (Y < N2) = False := by simp; omega
                            clear g2
                            go_wp2
                            go_roundw
                            case rel => exact ⟨j + 1, _, N1, Y, by omega, rfl, rfl, by go_num, (by first | rfl | exact World.drewN_drewN _ _ _), HX1, HY1⟩
                            case measure => simp [intOf]; omega
                        · have HX1 : Hid (X = hiTo (szOf (List.replicate m 1)) (px p t) (j + 1)) := Lib.hid (by rw [hiTo, HN1.out, ← hX.out]; omega)
                          have e1 : (N1 > X) = False := by simp; omega
                          have e2 : (X < N1) = False := by simp; omega
                          clear g1
                          go_wp2_with fail
                          refine (kept_ok (px p t) xs m j _ _ n1 k1 b1 o1 m k' b' o' _ _ (hr1.drewN _) (h'.drewN _) (HAF.out t hlt) m12 rfl HC.out hj2).mono ?_
                          rintro e wk ⟨rfl, q4, rfl⟩
                          obtain ⟨N2, hN2⟩ : ∃ N2, nowTo (szOf xs) (px p t) (j + 1) = N2 := ⟨_, rfl⟩
                          have HN2 := Lib.hid hN2
                          rw [hN2]
                          clear hN2
                          by_cases g2 : Y < N2
                          · have HY1 : Hid (N2 = hiTo (szOf xs) (px p t) (j + 1)) := Lib.hid (by rw [hiTo, HN2.out, ← hY.out]; omega)
                            have e3 : N2 > Y := g2
                            go_wp2
                            go_roundw
                            case rel => exact ⟨j + 1, _, X, N2, by omega, rfl, rfl, by go_num, (by first | rfl | exact World.drewN_drewN _ _ _), HX1, HY1⟩
                            case measure => simp [intOf]; omega
                          · have HY1 : Hid (Y = hiTo (szOf xs) (px p t) (j + 1)) := Lib.hid (by rw [hiTo, HN2.out, ← hY.out]; omega)
                            have e3 : (N2 > Y) = False := by simp; omega
                            have e4 : (Y < N2) = False := by simp; omega
                            clear g2
                            go_wp2
                            go_roundw
                            case rel => exact ⟨j + 1, _, X, Y, by omega, rfl, rfl, by go_num, (by first | rfl | exact World.drewN_drewN _ _ _), HX1, HY1⟩
                            case measure => simp [intOf]; omega
                      · obtain rfl : n1 = j := by omega
                        have cl := hl.cell t hlt
                        rw [peaks_ix (by rw [HL.out]; exact hlt), ones_hi (HAF.out t hlt), HL1.out, ← hX.out, Nat.zero_add] at cl
                        have e6 : (X != X) = false := by simp
                        obtain rfl := hl.ptr (by omega)
                        have cH := hH.cell t hlt
                        rw [peaks_ix (by rw [HL.out]; exact hlt), pk_is (fun j => (szOf_bd HC.out j).1), HL1.out, ← hY.out, Nat.zero_add] at cH
                        have e7 : (Y != Y) = false := by simp
                        obtain rfl := hH.ptr (by omega)
                        go_wp2
                        go_roundw
                        case rel => exact ⟨t + 1, _, by omega, by go_num, rfl⟩
                        case measure => simp [intOf]; omega
                  · obtain rfl : n = t := by omega
                    go_wp2
                    go_ret
                    exact ⟨rfl, below_drewN hbm _⟩
    · have e0 : ((n' : Int) != (m : Int)) = true := by simp; omega
      go_wp2_with fail
      refine (peakHeld_len p m _ _ n k b o n' k' _ _ h HV.out (by omega) hmx').mono ?_
      rintro e w4 ⟨rfl, hb4⟩
      replace h := h.keep hb4
      replace hl := hl.keep hb4
      replace hh := hh.keep hb4
      replace hbz : Below w.heap.size w w4 := (by repeat (first | fail | (with_reducible exact Below.refl _ _) | (with_reducible exact hbz) | (with_reducible refine Below.al ?_ _) | (with_reducible refine Below.drN ?_ _) | (with_reducible refine Below.drew ?_) | (with_reducible refine Below.st ?_ ?_ _; rotate_left 1; (first | (dsimp only; omega) | omega | (simp; omega) | simp)) | (with_reducible refine Below.go ?_ hb4) | exact Below.refl _ _ | exact hbz))
      clear hb4 h' hnm
      go_wp2
      go_loopw [12, 13] (fun f i wr => f = .int .i64 (2) ∧ i = .int .i64 0 ∧ wr = w4) (fun _ _ _ => 0)
      case atStart => exact ⟨rfl, rfl, rfl⟩
      case round =>
        obtain ⟨rfl, rfl, rfl⟩ := hrel
        by_cases hn0 : (0 : Int) < (n' : Int)
        · skip
          go_wp2_with fail
          refine (error_any 2 2 _ hh).mono ?_
          rintro e wt ⟨rfl, hbt⟩
          rw [decide_eq_true rfl]
          replace hh := hh.keep hbt
          replace hbz : Below w.heap.size w wt := (by repeat (first | fail | (with_reducible exact Below.refl _ _) | (with_reducible exact hbz) | (with_reducible refine Below.al ?_ _) | (with_reducible refine Below.drN ?_ _) | (with_reducible refine Below.drew ?_) | (with_reducible refine Below.st ?_ ?_ _; rotate_left 1; (first | (dsimp only; omega) | omega | (simp; omega) | simp)) | (with_reducible refine Below.go ?_ hbt) | exact Below.refl _ _ | exact hbz))
          replace h := h.keep hbt
          replace hl := hl.keep hbt
          clear hbt
          obtain ⟨wz, rfl⟩ : ∃ wz : World, wz = wt := ⟨_, rfl⟩
          go_wp2
          go_loopw [14, 15] (fun v i wr => ∃ (t : Nat) (v0 : Value), v0 = v ∧ t ≤ m ∧ i = .int .i64 t ∧ wr.ownsRow wz.heap.size 3 1 v0 t ((List.replicate t (1 : Int)).map (Value.int .i64)) ∧ Below wz.heap.size wz wr) (fun _ i _ => m - (intOf i).toNat)
          case atStart => exact ⟨0, _, rfl, Nat.zero_le _, rfl, World.ownsRow_nil _ _ _ _, (by repeat (first | fail | (with_reducible exact Below.refl _ _) | (with_reducible refine Below.al ?_ _) | (with_reducible refine Below.drN ?_ _) | (with_reducible refine Below.drew ?_) | (with_reducible refine Below.st ?_ ?_ _; rotate_left 1; (first | (dsimp only; omega) | omega | (simp; omega) | simp)) | exact Below.refl _ _))⟩
          case round =>
            obtain ⟨t, v, rfl, ht, rfl, hown, hbr⟩ := hrel
            by_cases hlt : t < m
            · go_wp2_with (at_builtin; (refine wpList_append_ints rfl (.tmp 103) (.tmp 104) 39 rfl wz.heap.size 3 i0 Tryd.underlying39 hi hz0 hz1 hz2 _ t (List.replicate t 1) rfl (hown.alloc _) _ 1 1 wr.heap.size 0 [1] rfl (ints1 (Box.new _ _ 3)) (by omega) (by have := hbr.size; simp; omega) ?_))
              intro v' w' hown' hgrow'
              have hbn : Below wz.heap.size wz w' := Below.grown (Below.al hbr _) hgrow' (by have := hbr.size; simp; omega) (fun k hk => (hown.lt k hk).1)
              go_wp2
              go_roundw
              case rel => exact ⟨t + 1, v', rfl, by omega, by go_num, by rw [rep_succ]; simpa using hown', hbn⟩
              case measure => simp [intOf]; omega
            · obtain rfl : m = t := by omega
              obtain ⟨a3, k3, b3, hv, _, hi3⟩ := IntsAt.of_own hown
              subst hv
              have hbm : Below w.heap.size w wr := hbz.trans (hbr.mono hbz.size)
              replace h := h.keep hbr
              replace hl := hl.keep hbr
              skip
              clear hown hbr hbz
              obtain ⟨wm, rfl⟩ : ∃ wm : World, wm = wr := ⟨_, rfl⟩
              go_wp2
              go_loopw [16] (fun i wr => ∃ t q : Nat, t ≤ n ∧ i = .int .i64 t ∧ wr = wm.drewN q) (fun i _ => n - (intOf i).toNat)
              case atStart => exact ⟨0, 0, Nat.zero_le _, rfl, rfl⟩
              case round =>
                obtain ⟨t, q, ht, rfl, rfl⟩ := hrel
                by_cases hlt : t < n
                · obtain rfl := h.ptr (by omega)
                  obtain ⟨a1, n1, k1, b1, o1, c0, hr1⟩ := plan_cell h hlt
                  have hmx1 := hr1.max
                  unfold maxLen at hmx1
                  have HL1 := Lib.hid hr1.len
                  go_wp2
                  go_loopw [17, 18, 19] (fun x y i wr => ∃ (j q : Nat) (X Y : Int), j ≤ n1 ∧ x = .int .i64 X ∧ y = .int .i64 Y ∧ i = .int .i64 j ∧ wr = wm.drewN q ∧ Hid (X = hiTo (szOf (List.replicate m 1)) (px p t) j) ∧ Hid (True)) (fun _ _ i _ => n1 - (intOf i).toNat)
                  case atStart => exact ⟨0, q, 0, 0, Nat.zero_le _, rfl, rfl, rfl, rfl, Lib.hid rfl, Lib.hid (by first | exact trivial | rfl)⟩
                  case round =>
                    obtain ⟨j, q2, X, Y, hj, rfl, rfl, rfl, rfl, hX, hY⟩ := hrel
                    by_cases hj2 : j < n1
                    · go_wp2_with fail
                      refine (kept_ok (px p t) (List.replicate m 1) m j _ _ n1 k1 b1 o1 m k3 b3 0 _ _ (hr1.drewN _) (hi3.drewN _) (HAF.out t hlt) m12 rfl (rep_cost m) hj2).mono ?_
                      rintro e wk ⟨rfl, q3, rfl⟩
                      obtain ⟨N1, hN1⟩ : ∃ N1, nowTo (szOf (List.replicate m 1)) (px p t) (j + 1) = N1 := ⟨_, rfl⟩
                      have HN1 := Lib.hid hN1
                      rw [hN1]
                      clear hN1
                      by_cases g1 : X < N1
                      · have HX1 : Hid (N1 = hiTo (szOf (List.replicate m 1)) (px p t) (j + 1)) := Lib.hid (by rw [hiTo, HN1.out, ← hX.out]; omega)
                        have e1 : N1 > X := g1
                        go_wp2
                        go_roundw
                        case rel => exact ⟨j + 1, _, N1, Y, by omega, rfl, rfl, by go_num, rfl, HX1, Lib.hid trivial⟩
                        case measure => simp [intOf]; omega
                      · have HX1 : Hid (X = hiTo (szOf (List.replicate m 1)) (px p t) (j + 1)) := Lib.hid (by rw [hiTo, HN1.out, ← hX.out]; omega)
                        have e1 : (N1 > X) = False := by simp; omega
                        have e2 : (X < N1) = False := by simp; omega
                        clear g1
                        go_wp2
                        go_roundw
                        case rel => exact ⟨j + 1, _, X, Y, by omega, rfl, rfl, by go_num, rfl, HX1, Lib.hid trivial⟩
                        case measure => simp [intOf]; omega
                    · obtain rfl : n1 = j := by omega
                      have cl := hl.cell t hlt
                      rw [peaks_ix (by rw [HL.out]; exact hlt), ones_hi (HAF.out t hlt), HL1.out, ← hX.out, Nat.zero_add] at cl
                      have e6 : (X != X) = false := by simp
                      obtain rfl := hl.ptr (by omega)
                      go_wp2
                      go_roundw
                      case rel => exact ⟨t + 1, _, by omega, by go_num, rfl⟩
                      case measure => simp [intOf]; omega
                · obtain rfl : n = t := by omega
                  go_wp2
                  go_ret
                  exact ⟨rfl, below_drewN hbm _⟩
        · skip
          go_wp2_with fail
          refine (error_any 2 2 _ hh).mono ?_
          rintro e wt ⟨rfl, hbt⟩
          rw [decide_eq_true rfl]
          replace hh := hh.keep hbt
          replace hbz : Below w.heap.size w wt := (by repeat (first | fail | (with_reducible exact Below.refl _ _) | (with_reducible exact hbz) | (with_reducible refine Below.al ?_ _) | (with_reducible refine Below.drN ?_ _) | (with_reducible refine Below.drew ?_) | (with_reducible refine Below.st ?_ ?_ _; rotate_left 1; (first | (dsimp only; omega) | omega | (simp; omega) | simp)) | (with_reducible refine Below.go ?_ hbt) | exact Below.refl _ _ | exact hbz))
          replace h := h.keep hbt
          replace hl := hl.keep hbt
          clear hbt
          obtain ⟨wz, rfl⟩ : ∃ wz : World, wz = wt := ⟨_, rfl⟩
          go_wp2
          go_loopw [14, 15] (fun v i wr => ∃ (t : Nat) (v0 : Value), v0 = v ∧ t ≤ m ∧ i = .int .i64 t ∧ wr.ownsRow wz.heap.size 3 1 v0 t ((List.replicate t (1 : Int)).map (Value.int .i64)) ∧ Below wz.heap.size wz wr) (fun _ i _ => m - (intOf i).toNat)
          case atStart => exact ⟨0, _, rfl, Nat.zero_le _, rfl, World.ownsRow_nil _ _ _ _, (by repeat (first | fail | (with_reducible exact Below.refl _ _) | (with_reducible refine Below.al ?_ _) | (with_reducible refine Below.drN ?_ _) | (with_reducible refine Below.drew ?_) | (with_reducible refine Below.st ?_ ?_ _; rotate_left 1; (first | (dsimp only; omega) | omega | (simp; omega) | simp)) | exact Below.refl _ _))⟩
          case round =>
            obtain ⟨t, v, rfl, ht, rfl, hown, hbr⟩ := hrel
            by_cases hlt : t < m
            · go_wp2_with (at_builtin; (refine wpList_append_ints rfl (.tmp 103) (.tmp 104) 39 rfl wz.heap.size 3 i0 Tryd.underlying39 hi hz0 hz1 hz2 _ t (List.replicate t 1) rfl (hown.alloc _) _ 1 1 wr.heap.size 0 [1] rfl (ints1 (Box.new _ _ 3)) (by omega) (by have := hbr.size; simp; omega) ?_))
              intro v' w' hown' hgrow'
              have hbn : Below wz.heap.size wz w' := Below.grown (Below.al hbr _) hgrow' (by have := hbr.size; simp; omega) (fun k hk => (hown.lt k hk).1)
              go_wp2
              go_roundw
              case rel => exact ⟨t + 1, v', rfl, by omega, by go_num, by rw [rep_succ]; simpa using hown', hbn⟩
              case measure => simp [intOf]; omega
            · obtain rfl : m = t := by omega
              obtain ⟨a3, k3, b3, hv, _, hi3⟩ := IntsAt.of_own hown
              subst hv
              have hbm : Below w.heap.size w wr := hbz.trans (hbr.mono hbz.size)
              replace h := h.keep hbr
              replace hl := hl.keep hbr
              skip
              clear hown hbr hbz
              obtain ⟨wm, rfl⟩ : ∃ wm : World, wm = wr := ⟨_, rfl⟩
              go_wp2
              go_loopw [16] (fun i wr => ∃ t q : Nat, t ≤ n ∧ i = .int .i64 t ∧ wr = wm.drewN q) (fun i _ => n - (intOf i).toNat)
              case atStart => exact ⟨0, 0, Nat.zero_le _, rfl, rfl⟩
              case round =>
                obtain ⟨t, q, ht, rfl, rfl⟩ := hrel
                by_cases hlt : t < n
                · obtain rfl := h.ptr (by omega)
                  obtain ⟨a1, n1, k1, b1, o1, c0, hr1⟩ := plan_cell h hlt
                  have hmx1 := hr1.max
                  unfold maxLen at hmx1
                  have HL1 := Lib.hid hr1.len
                  go_wp2
                  go_loopw [17, 18, 19] (fun x y i wr => ∃ (j q : Nat) (X Y : Int), j ≤ n1 ∧ x = .int .i64 X ∧ y = .int .i64 Y ∧ i = .int .i64 j ∧ wr = wm.drewN q ∧ Hid (X = hiTo (szOf (List.replicate m 1)) (px p t) j) ∧ Hid (True)) (fun _ _ i _ => n1 - (intOf i).toNat)
                  case atStart => exact ⟨0, q, 0, 0, Nat.zero_le _, rfl, rfl, rfl, rfl, Lib.hid rfl, Lib.hid (by first | exact trivial | rfl)⟩
                  case round =>
                    obtain ⟨j, q2, X, Y, hj, rfl, rfl, rfl, rfl, hX, hY⟩ := hrel
                    by_cases hj2 : j < n1
                    · go_wp2_with fail
                      refine (kept_ok (px p t) (List.replicate m 1) m j _ _ n1 k1 b1 o1 m k3 b3 0 _ _ (hr1.drewN _) (hi3.drewN _) (HAF.out t hlt) m12 rfl (rep_cost m) hj2).mono ?_
                      rintro e wk ⟨rfl, q3, rfl⟩
                      obtain ⟨N1, hN1⟩ : ∃ N1, nowTo (szOf (List.replicate m 1)) (px p t) (j + 1) = N1 := ⟨_, rfl⟩
                      have HN1 := Lib.hid hN1
                      rw [hN1]
                      clear hN1
                      by_cases g1 : X < N1
                      · have HX1 : Hid (N1 = hiTo (szOf (List.replicate m 1)) (px p t) (j + 1)) := Lib.hid (by rw [hiTo, HN1.out, ← hX.out]; omega)
                        have e1 : N1 > X := g1
                        go_wp2
                        go_roundw
                        case rel => exact ⟨j + 1, _, N1, Y, by omega, rfl, rfl, by go_num, rfl, HX1, Lib.hid trivial⟩
                        case measure => simp [intOf]; omega
                      · have HX1 : Hid (X = hiTo (szOf (List.replicate m 1)) (px p t) (j + 1)) := Lib.hid (by rw [hiTo, HN1.out, ← hX.out]; omega)
                        have e1 : (N1 > X) = False := by simp; omega
                        have e2 : (X < N1) = False := by simp; omega
                        clear g1
                        go_wp2
                        go_roundw
                        case rel => exact ⟨j + 1, _, X, Y, by omega, rfl, rfl, by go_num, rfl, HX1, Lib.hid trivial⟩
                        case measure => simp [intOf]; omega
                    · obtain rfl : n1 = j := by omega
                      have cl := hl.cell t hlt
                      rw [peaks_ix (by rw [HL.out]; exact hlt), ones_hi (HAF.out t hlt), HL1.out, ← hX.out, Nat.zero_add] at cl
                      have e6 : (X != X) = false := by simp
                      obtain rfl := hl.ptr (by omega)
                      go_wp2
                      go_roundw
                      case rel => exact ⟨t + 1, _, by omega, by go_num, rfl⟩
                      case measure => simp [intOf]; omega
                · obtain rfl : n = t := by omega
                  go_wp2
                  go_ret
                  exact ⟨rfl, below_drewN hbm _⟩
  · have e1 : (V == 0) = false := by simp [hz]
    have e2 : (V != 0) = true := by simp [hz]
    have HZ := Lib.hid hz
    clear hz
    go_wp2_with fail
    refine (peaks_bad p M _ n k b o _ _ h (by rw [HV.out]; exact HZ.out)).mono ?_
    rintro e w2 ⟨rfl, hb2⟩
    rw [HV.out]
    replace h := h.keep hb2
    replace hh := hh.keep hb2
    replace hbz : Below w.heap.size w w2 := (by repeat (first | fail | (with_reducible exact Below.refl _ _) | (with_reducible exact hbz) | (with_reducible refine Below.al ?_ _) | (with_reducible refine Below.drN ?_ _) | (with_reducible refine Below.drew ?_) | (with_reducible refine Below.st ?_ ?_ _; rotate_left 1; (first | (dsimp only; omega) | omega | (simp; omega) | simp)) | (with_reducible refine Below.go ?_ hb2) | exact Below.refl _ _ | exact hbz))
    clear hb2
    go_wp2_with fail
    refine (error_any V V _ hh).mono ?_
    rintro e w3 ⟨rfl, hb3⟩
    rw [decide_eq_true rfl]
    replace h := h.keep hb3
    replace hh := hh.keep hb3
    replace hbz : Below w.heap.size w w3 := (by repeat (first | fail | (with_reducible exact Below.refl _ _) | (with_reducible exact hbz) | (with_reducible refine Below.al ?_ _) | (with_reducible refine Below.drN ?_ _) | (with_reducible refine Below.drew ?_) | (with_reducible refine Below.st ?_ ?_ _; rotate_left 1; (first | (dsimp only; omega) | omega | (simp; omega) | simp)) | (with_reducible refine Below.go ?_ hb3) | exact Below.refl _ _ | exact hbz))
    clear hb3
    go_wp2_with fail
    refine (peakHeld_bad p M _ _ n k b o n' k' _ _ h (by rw [HV.out]; exact HZ.out)).mono ?_
    rintro e w4 ⟨rfl, hb4⟩
    rw [HV.out]
    replace hh := hh.keep hb4
    replace hbz : Below w.heap.size w w4 := (by repeat (first | fail | (with_reducible exact Below.refl _ _) | (with_reducible exact hbz) | (with_reducible refine Below.al ?_ _) | (with_reducible refine Below.drN ?_ _) | (with_reducible refine Below.drew ?_) | (with_reducible refine Below.st ?_ ?_ _; rotate_left 1; (first | (dsimp only; omega) | omega | (simp; omega) | simp)) | (with_reducible refine Below.go ?_ hb4) | exact Below.refl _ _ | exact hbz))
    clear hb4 h h'
    go_wp2
    go_loopw [12, 13] (fun f i wr => f = .int .i64 (V) ∧ i = .int .i64 0 ∧ wr = w4) (fun _ _ _ => 0)
    case atStart => exact ⟨rfl, rfl, rfl⟩
    case round =>
      obtain ⟨rfl, rfl, rfl⟩ := hrel
      by_cases hn0 : (0 : Int) < (n' : Int)
      · skip
        go_wp2_with fail
        refine (error_any V V _ hh).mono ?_
        rintro e wt ⟨rfl, hbt⟩
        rw [decide_eq_true rfl]
        replace hh := hh.keep hbt
        replace hbz : Below w.heap.size w wt := (by repeat (first | fail | (with_reducible exact Below.refl _ _) | (with_reducible exact hbz) | (with_reducible refine Below.al ?_ _) | (with_reducible refine Below.drN ?_ _) | (with_reducible refine Below.drew ?_) | (with_reducible refine Below.st ?_ ?_ _; rotate_left 1; (first | (dsimp only; omega) | omega | (simp; omega) | simp)) | (with_reducible refine Below.go ?_ hbt) | exact Below.refl _ _ | exact hbz))
        go_wp2
        go_ret
        exact ⟨rfl, hbz⟩
      · skip
        go_wp2_with fail
        refine (error_any V V _ hh).mono ?_
        rintro e wt ⟨rfl, hbt⟩
        rw [decide_eq_true rfl]
        replace hh := hh.keep hbt
        replace hbz : Below w.heap.size w wt := (by repeat (first | fail | (with_reducible exact Below.refl _ _) | (with_reducible exact hbz) | (with_reducible refine Below.al ?_ _) | (with_reducible refine Below.drN ?_ _) | (with_reducible refine Below.drew ?_) | (with_reducible refine Below.st ?_ ?_ _; rotate_left 1; (first | (dsimp only; omega) | omega | (simp; omega) | simp)) | (with_reducible refine Below.go ?_ hbt) | exact Below.refl _ _ | exact hbz))
        go_wp2
        go_ret
        exact ⟨rfl, hbz⟩

theorem own : ownKnob Tryd.prog.godebug = none := by kernel_rfl
theorem laidOut : laidOutB Tryd.prog = true := by kernel_rfl
theorem et : Tryd.prog.globalNamed "errors.errorType" = some 0 := by kernel_rfl
theorem rt : (Tryd.prog.cutTypes.find? (·.1 == "internal/reflectlite.rtype")).map (·.2) = some 117 := by kernel_rfl
theorem oneRow : ((List.range 160).filter fun t => Tryd.prog.rowNamed t [101, 114, 114, 111, 114]) = [24] := by kernel_rfl
theorem tsize : Tryd.prog.types.size = 160 := by kernel_rfl
theorem handle_of_laid {W : World} (h : laidMetH Tryd.prog Rows.peakTellsRow.laid W) : Handle W := by
  have h' : laidMet Tryd.prog [] W ∧ handlesMet Tryd.prog Rows.peakTellsRow.laid W := h
  obtain ⟨name, u, ty, e1, e2, e3, e4, e5⟩ := h'.2 _ (List.mem_singleton.2 rfl)
  have en : name = [101, 114, 114, 111, 114] := (Option.some.inj e1).symm
  subst en
  obtain rfl := Option.some.inj (rt.symm.trans e2)
  have hm : ty ∈ (List.range 160).filter fun t => Tryd.prog.rowNamed t [101, 114, 114, 111, 114] := List.mem_filter.2 ⟨List.mem_range.2 (by rw [← tsize]; exact e3), e4⟩
  rw [oneRow] at hm
  obtain rfl := List.mem_singleton.1 hm
  have hh : typeHandle Tryd.prog 24 = .pointer (some ⟨1, 24, none⟩) := by kernel_rfl
  rw [hh] at e5
  simpa [Handle, handleV] using World.var?_cell et e5 0
noncomputable def laidWorld (os : Os) : World :=
  { World.holding Tryd.prog os ⟨#[], #[], []⟩ with heap := (World.holding Tryd.prog os ⟨#[], #[], []⟩).heap.modify 0 fun
      | .cells _ t frozen => .cells #[.iface 117 (.agg #[.pointer (some ⟨1, 24, none⟩)])] t frozen
      | o => o }
theorem laid_met (os : Os) : laidMetH Tryd.prog Rows.peakTellsRow.laid ((laidWorld os).forCall (fun _ _ => 0) ⟨#[], #[.slice none 0 0, .int .i64 0, .slice none 0 0], []⟩).memory :=
  laidMetH_of_parts (laidMet_nil _ _) (by kernel_rfl)
theorem reads (os : Os) {H : Type} (enc : TypeId × Value → H) : ∃ places, DataW.whole enc Tryd.prog ((laidWorld os).forCall (fun _ _ => 0) ⟨#[], #[.slice none 0 0, .int .i64 0, .slice none 0 0], []⟩).memory Tryd.f5.params.toList Rows.peakTellsSpec.vars false (#[.slice none 0 0, .int .i64 0, .slice none 0 0] : Array Value).toList 8 = some ([.nil, .lit (.int .i64 0), .nil], [], places) :=
  ⟨[], by kernel_rfl⟩
set_option maxRecDepth 100000 in
set_option maxHeartbeats 1000000 in
theorem contract (H : Type) (enc : TypeId × Value → H) (W : World) (base : Nat) (args : Array Value) (ds gs : List (DataW H)) (before : List MemPlace)
    (hval0 : ∀ (j : Nat) t v, Tryd.f5.params[j]? = some t → args[j]? = some v → Value.okWide Tryd.prog W .any base t v)
    (hW : DataW.Whole enc Tryd.prog Tryd.f5.params.toList Rows.peakTellsSpec.vars false W args.toList ds gs before) (hh : Handle W) :
    Calls Tryd.prog 5 args W fun e W' => ∃ v, e = .returned v ∧ Rows.peakTellsSpec.post enc Tryd.prog Tryd.f5 false true false false W args v W' := by
  have hval := hval0
  have hW' := hW
  obtain ⟨p, q, hA0, hV, rfl, hfz, hnd⟩ := hW
  have hA : DataW.TrodAll enc Tryd.prog W 0 (fun _ => true) true Tryd.f5.params.toList args.toList ds p := hA0
  rw [Tryd.params5] at hA hval
  obtain ⟨v0, vs0, d0, ds0, p0, q0, hargs, rfl, rfl, h0, r0⟩ := trodAll_cons hA
  obtain ⟨v1, vs1, d1, ds1, p1, q1, rfl, rfl, rfl, h1, r1⟩ := trodAll_cons r0
  obtain ⟨v2, vs2, d2, ds2, p2, q2, rfl, rfl, rfl, h2, r2⟩ := trodAll_cons r1
  obtain ⟨rfl, rfl, rfl⟩ := trodAll_nil r2
  obtain rfl : args = #[v0, v1, v2] := by cases args; simp_all
  obtain ⟨rfl, rfl⟩ := trodVars_none hV
  have k0 := h0
  have lt0 : ∀ x ∈ p0, x.block < W.heap.size := by obtain ⟨m, hm⟩ := k0; exact DataW.trod_lt m _ _ _ hm
  have k1 := h1
  have lt1 : ∀ x ∈ p1, x.block < W.heap.size := by obtain ⟨m, hm⟩ := k1; exact DataW.trod_lt m _ _ _ hm
  have k2 := h2
  have lt2 : ∀ x ∈ p2, x.block < W.heap.size := by obtain ⟨m, hm⟩ := k2; exact DataW.trod_lt m _ _ _ hm
  obtain ⟨a0, w0⟩ := open_llAct (hval 0 22 v0 rfl rfl) h0
  obtain ⟨a1, rfl, rfl, rfl, w1⟩ := open_int Tryd.underlying3 (hval 1 3 v1 rfl rfl) h1
  obtain ⟨a2, w2⟩ := open_lint (hval 2 39 v2 rfl rfl) h2
  clear hA0 hval0
  refine (walk a0 v0 a1 a2 v2 W w0 w1 w2 hh).mono fun e W' ⟨he, bel⟩ => ?_
  subst he
  exact ⟨_, rfl, _, _, _, [], _, [], hW', trodAll_mk1 (shut_bool Tryd.underlying4 _), (trodAll_cons_mk (Below.trod laidOut (by kernel_rfl) (of_decide_eq_true (by kernel_rfl)) k0 bel lt0) (trodAll_cons_mk (Below.trod laidOut (by kernel_rfl) (of_decide_eq_true (by kernel_rfl)) k1 bel lt1) (trodAll_cons_mk (Below.trod laidOut (by kernel_rfl) (of_decide_eq_true (by kernel_rfl)) k2 bel lt2) trodAll_mk0))), rfl, bel.frame _, fun h => by cases h⟩

set_option maxRecDepth 100000 in
theorem lifted (os : Os) (started : os.Started) (H : Type) (enc : TypeId × Value → H) (F : Stop.Interp) :
    ReturnsInHanded {} Tryd.checked os 5 .any ((OpenSpec.ofChange Rows.peakTellsSpec).preRow enc Tryd.prog Tryd.f5 Rows.peakTellsRow.domain false Rows.peakTellsRow.laid) (((OpenSpec.ofChange Rows.peakTellsSpec).at F).post enc Tryd.prog Tryd.f5 false true false false) := by
  obtain ⟨places, hx⟩ := reads os enc
  refine returnsInHanded_of_row (C := Tryd.checked) (s := OpenSpec.ofChange Rows.peakTellsSpec) own started (by kernel_rfl) Tryd.func5
    (witness_row_at (enc := enc) (C := Tryd.checked) false (laidWorld os) #[.slice none 0 0, .int .i64 0, .slice none 0 0] rfl (by kernel_rfl) (by kernel_rfl) (by kernel_rfl)
      (OpenSpec.preRow_of_cond 8 hx (by kernel_rfl) (fun k hk => by cases hk) (by kernel_rfl) (laid_met os))) ?_
  intro W base args ds gs before hval hW _ _ _ hL _ _
  exact contract H enc W base args ds gs before hval hW (handle_of_laid hL)

theorem said : Rows.PeakTellsSaid :=
  OpenClaim.holds_of_cond 5 Tryd.f5 rfl rfl rfl rfl rfl rfl rfl ⟨rfl, rfl, rfl, rfl, rfl⟩ rfl rfl rfl rfl rfl (by kernel_rfl) Tryd.func5 (by kernel_rfl)
    (of_decide_eq_true (by kernel_rfl)) (by unfold Func.isWrapper; first | (rw [if_pos (by decide +kernel)]; kernel_rfl) | (rw [if_neg (by decide +kernel)]; exact ⟨rfl, rfl⟩))
    (fun os started H enc _ F => by rw [OpenClaim.pre_eq_preRow]; exact lifted os started H enc F)
theorem plain (f : FuncId) (fn : Func) (hf : Tryd.pinned.checked.prog.funcNamed Rows.peakTellsRow.func = some f) (hfn : Tryd.pinned.checked.prog.funcs[f]? = some fn) :
    Rows.peakTellsCard.stood.looks = Tryd.pinned.checked.prog.looks [] ∧ ∀ (j : Nat) t, fn.params[j]? = some t → Tryd.pinned.checked.prog.wantsStandIn t = false := by
  obtain rfl : f = 5 := Option.some.inj ((show Tryd.prog.funcNamed Rows.peakTellsRow.func = some 5 by kernel_rfl).symm.trans hf) |>.symm
  obtain rfl : fn = Tryd.f5 := (Option.some.inj (Tryd.func5.symm.trans hfn)).symm
  refine ⟨by kernel_rfl, fun j t ht => ?_⟩
  rw [Tryd.params5] at ht
  have hm := Array.mem_of_getElem? ht
  have hc : t = 22 ∨ t = 3 ∨ t = 39 := by simpa using hm
  rcases hc with rfl | rfl | rfl
  · exact (show Tryd.prog.wantsStandIn 22 = false by kernel_rfl)
  · exact (show Tryd.prog.wantsStandIn 3 = false by kernel_rfl)
  · exact (show Tryd.prog.wantsStandIn 39 = false by kernel_rfl)
theorem proved : Rows.PeakTellsCardSaid :=
  Claim7.holds_tied_plain_at .later [] _ _ _ _ said (fun _ h => by cases h) (by kernel_rfl) (fun _ h => by cases h) peakTells_row_tie rfl ⟨rfl, rfl⟩ (by kernel_rfl) rfl plain (by kernel_rfl)
#print axioms proved

end Go.Proofs.YtjaepdkeldgikaaDoor.lawPeakTells
