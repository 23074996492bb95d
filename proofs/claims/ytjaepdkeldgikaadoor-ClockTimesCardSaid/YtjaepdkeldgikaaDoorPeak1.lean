/- Contracts of package peak: held, Peaks. -/
import Derived.Test.YtjaepdkeldgikaaDoorPlan7
import Derived.Test.YtjaepdkeldgikaaDoorSameI
set_option linter.unusedVariables false
set_option linter.unusedSimpArgs false
set_option linter.unusedSectionVars false
namespace Gal
/-- how much one stage keeps at once, at most -/
def pkGo (sz : Int → Int) : Int → Int → List ActD → Int
  | _, most, [] => most
  | now, most, a :: l => if a.1 = 1 then pkGo sz (now + sz a.2) (max most (now + sz a.2)) l else pkGo sz (now - sz a.2) most l
theorem pkGo_cons (sz : Int → Int) (now most : Int) (a : ActD) (l : List ActD) : pkGo sz now most (a :: l) = if a.1 = 1 then pkGo sz (now + sz a.2) (max most (now + sz a.2)) l else pkGo sz (now - sz a.2) most l := rfl
def peaksOf (sz : Int → Int) (p : PlanD) : List Int := p.map (pkGo sz 0 0)
theorem peaksOf_take {sz : Int → Int} {p : PlanD} {t : Nat} (h : t < p.length) : (peaksOf sz p).take (t + 1) = (peaksOf sz p).take t ++ [pkGo sz 0 0 (px p t)] := by
  unfold peaksOf
  rw [List.take_succ_eq_append_getElem (by simpa using h)]
  have := px_get h
  rw [List.getElem?_eq_getElem h] at this
  simp only [Option.some.injEq] at this
  simp [this]
theorem stage_len {m : Nat} {p : PlanD} (h : planFault m p = 0) : ¬ planBad m p ∧ ∀ s, s < p.length → actsFault m (px p s) = 0 := by
  unfold planFault at h
  by_cases h1 : planBad m p
  · rw [if_pos h1] at h; exact absurd h (by decide)
  · rw [if_neg h1] at h
    by_cases h2 : stageFault m p = 0
    · refine ⟨h1, fun s => ?_⟩
      induction s using Nat.strongRecOn with
      | ind s ih =>
        intro hs
        by_cases h3 : actsFault m (px p s) = 0
        · exact h3
        · exact absurd (stageFault_some hs h3 fun r hr => ih r hr (by omega)) (by rw [h2]; exact fun e => h3 e.symm)
    · rw [if_pos h2] at h; exact absurd h h2
end Gal
namespace Go.Proofs.YtjaepdkeldgikaaDoor
open Go.RowKit Gal Go.Maps
set_option maxRecDepth 100000
set_option maxHeartbeats 4000000
theorem own_keep {w w' : World} {base e size n : Nat} {v : Value} {xs : List Value} (h : w.ownsRow base e size v n xs) {B : Nat} (hb : Below B w w') (hB : w.heap.size ≤ B) : w'.ownsRow base e size v n xs := by
  obtain ⟨h1, h2⟩ := h
  refine ⟨h1, ?_⟩
  rcases h2 with h2 | ⟨g, cap, cur, hv, hg, hh, r⟩
  · exact Or.inl h2
  · exact Or.inr ⟨g, cap, cur, hv, hg, (hb.block g (Nat.lt_of_lt_of_le (heap_lt hh) hB)).trans hh, r⟩
theorem peaks1_any (x : Int) (w : World) : Calls Tryd.prog 45 #[.int .i64 x] w fun e w' => e = .returned (.int .i64 1) ∧ w = w' := by
  go_enter Tryd.func45, Tryd.ntmps45
  go_wp2
  go_ret
  exact ⟨rfl, rfl⟩
theorem held1_ok (p : PlanD) (_ : True) (sz : Int → Int) (hsz : ∀ j, 0 ≤ sz j ∧ sz j ≤ 1000000) (a : Option Addr) (n k b o : Nat) (F : Nat → Prop) (w : World) (h : RowAt Form.plan w F a n k b o p) (hn : n ≤ 6) (hlen : ∀ s, s < p.length → (px p s).length ≤ 24) (hsz1 : ∀ j, sz j = 1) :
    Calls Tryd.prog 44 #[.slice a n k, .func (.func 45) #[] #[]] w fun e w' => ∃ a1 k1 b1, e = .returned (.slice a1 n k1) ∧ (0 < n → w.heap.size ≤ b1) ∧ IntsAt w' a1 n k1 b1 0 (peaksOf sz p) ∧ Below w.heap.size w w' := by
  have HL := Lib.hid h.len
  have HLEN := Lib.hid hlen
  have HSZ := Lib.hid hsz
  obtain ⟨i0, hi, hz0, hz1, hz2⟩ := info_parts info_int'
  clear hlen hsz
  go_enter Tryd.func44, Tryd.ntmps44
  go_wp2
  go_loopw [5, 14] (fun v i wr => ∃ (t : Nat) (v0 : Value), v0 = v ∧ t ≤ n ∧ i = .int .i64 t ∧ wr.ownsRow w.heap.size 3 1 v0 t (((peaksOf sz p).take t).map (Value.int .i64)) ∧ Below w.heap.size w wr) (fun _ i _ => n - (intOf i).toNat)
  case atStart => exact ⟨0, _, rfl, Nat.zero_le _, rfl, World.ownsRow_nil _ _ _ _, (by repeat (first | fail | (with_reducible exact Below.refl _ _) | (with_reducible refine Below.al ?_ _) | (with_reducible refine Below.drN ?_ _) | (with_reducible refine Below.drew ?_) | (with_reducible refine Below.st ?_ ?_ _; rotate_left 1; (first | (dsimp only; omega) | omega | (simp; omega) | simp)) | exact Below.refl _ _))⟩
  case round =>
    obtain ⟨t, v, rfl, ht, rfl, hown, hbr⟩ := hrel
    by_cases hlt : t < n
    · obtain rfl := h.ptr (by omega)
      obtain ⟨a1, n1, k1, b1, o1, c0, hr1⟩ := plan_cell (h.keep hbr) hlt
      have hl1 : n1 ≤ 24 := by rw [← hr1.len]; exact HLEN.out t (by rw [HL.out]; exact hlt)
      have HL1 := Lib.hid hr1.len
      obtain ⟨ws, rfl⟩ : ∃ ws : World, ws = wr := ⟨_, rfl⟩
      have HTK := Lib.hid (peaksOf_take (sz := sz) (p := p) (t := t) (by rw [HL.out]; exact hlt))
      have HLT : Hid (((peaksOf sz p).take t).length = t) := Lib.hid (by rw [List.length_take]; unfold peaksOf; rw [List.length_map, HL.out]; omega)
      go_wp2
      go_loopw [8, 9, 20] (fun u q i wr => ∃ (j : Nat) (now most : Int), j ≤ n1 ∧ i = .int .i64 j ∧ u = .int .i64 now ∧ q = .int .i64 most ∧ Hid (pkGo sz now most ((px p t).drop j) = pkGo sz 0 0 (px p t)) ∧ -1000000 * (j : Int) ≤ now ∧ now ≤ 1000000 * (j : Int) ∧ 0 ≤ most ∧ most ≤ 1000000 * (j : Int) ∧ Below ws.heap.size ws wr) (fun _ _ i _ => n1 - (intOf i).toNat)
      case atStart => exact ⟨0, 0, 0, Nat.zero_le _, rfl, rfl, rfl, Lib.hid rfl, by omega, by omega, by omega, by omega, (by repeat (first | fail | (with_reducible exact Below.refl _ _) | (with_reducible refine Below.al ?_ _) | (with_reducible refine Below.drN ?_ _) | (with_reducible refine Below.drew ?_) | (with_reducible refine Below.st ?_ ?_ _; rotate_left 1; (first | (dsimp only; omega) | omega | (simp; omega) | simp)) | exact Below.refl _ _))⟩
      case round =>
        obtain ⟨j, now, most, hj, rfl, rfl, rfl, hgo, q1, q2, q3, q4, hbs⟩ := hrel
        by_cases hlt2 : j < n1
        · obtain rfl := hr1.ptr (by omega)
          obtain ⟨d0, d1⟩ := act_cells (hr1.keep hbs) hlt2
          obtain ⟨⟨x0, x1⟩, hx⟩ : ∃ x, ax (px p t) j = x := ⟨_, rfl⟩
          rw [hx] at d0 d1
          dsimp only at d0 d1
          have hgo' := hgo.out
          rw [drop_ax (by rw [HL1.out]; exact hlt2), hx] at hgo'
          rw [pkGo_cons] at hgo'
          dsimp only at hgo'
          obtain ⟨y, hy⟩ : ∃ y, sz x1 = y := ⟨_, rfl⟩
          have hyb := HSZ.out x1
          rw [hy] at hyb hgo'
          obtain ⟨y1, y2⟩ := hyb
          have HY := Lib.hid hy
          clear hx hy
          by_cases k1 : x0 = 1
          · rw [if_pos k1] at hgo'
            have e1 : (x0 == 1) = true := by simp [k1]
            clear k1
            rcases Int.lt_or_le most (now + y) with hm | hm
            · rw [show max most (now + y) = now + y by omega] at hgo'
              have HGO := Lib.hid hgo'
              have e2 : (now + y > most) = True := by simp; omega
              have e3 : most < now + y := hm
              clear hgo'
              go_wp2_with fail
              refine ((peaks1_any x1 _).mono fun e w' hh => (⟨hh.1.trans (by rw [hsz1]), hh.2⟩ : e = .returned (.int .i64 (sz x1)) ∧ _ = w')).mono ?_
              rintro e wc ⟨rfl, rfl⟩
              rw [HY.out]
              go_wp2
              go_roundw
              case rel => exact ⟨j + 1, now + y, now + y, by omega, by go_num, rfl, rfl, HGO, by omega, by omega, by omega, by omega, (by repeat (first | fail | (with_reducible exact Below.refl _ _) | (with_reducible exact hbs) | (with_reducible refine Below.al ?_ _) | (with_reducible refine Below.drN ?_ _) | (with_reducible refine Below.drew ?_) | (with_reducible refine Below.st ?_ ?_ _; rotate_left 1; (first | (dsimp only; omega) | omega | (simp; omega) | simp)) | exact Below.refl _ _ | exact hbs))⟩
              case measure => simp [intOf]; omega
            · rw [show max most (now + y) = most by omega] at hgo'
              have HGO := Lib.hid hgo'
              have e3 : (most < now + y) = False := by simp; omega
              clear hgo'
              go_wp2_with fail
              refine ((peaks1_any x1 _).mono fun e w' hh => (⟨hh.1.trans (by rw [hsz1]), hh.2⟩ : e = .returned (.int .i64 (sz x1)) ∧ _ = w')).mono ?_
              rintro e wc ⟨rfl, rfl⟩
              rw [HY.out]
              go_wp2
              go_roundw
              case rel => exact ⟨j + 1, now + y, most, by omega, by go_num, rfl, rfl, HGO, by omega, by omega, by omega, by omega, (by repeat (first | fail | (with_reducible exact Below.refl _ _) | (with_reducible exact hbs) | (with_reducible refine Below.al ?_ _) | (with_reducible refine Below.drN ?_ _) | (with_reducible refine Below.drew ?_) | (with_reducible refine Below.st ?_ ?_ _; rotate_left 1; (first | (dsimp only; omega) | omega | (simp; omega) | simp)) | exact Below.refl _ _ | exact hbs))⟩
              case measure => simp [intOf]; omega
          · rw [if_neg k1] at hgo'
            have HGO := Lib.hid hgo'
            have e1 : (x0 == 1) = false := by simp [k1]
            clear k1 hgo'
            go_wp2_with fail
            refine ((peaks1_any x1 _).mono fun e w' hh => (⟨hh.1.trans (by rw [hsz1]), hh.2⟩ : e = .returned (.int .i64 (sz x1)) ∧ _ = w')).mono ?_
            rintro e wc ⟨rfl, rfl⟩
            rw [HY.out]
            go_wp2
            go_roundw
            case rel => exact ⟨j + 1, now - y, most, by omega, by go_num, rfl, rfl, HGO, by omega, by omega, by omega, by omega, (by repeat (first | fail | (with_reducible exact Below.refl _ _) | (with_reducible exact hbs) | (with_reducible refine Below.al ?_ _) | (with_reducible refine Below.drN ?_ _) | (with_reducible refine Below.drew ?_) | (with_reducible refine Below.st ?_ ?_ _; rotate_left 1; (first | (dsimp only; omega) | omega | (simp; omega) | simp)) | exact Below.refl _ _ | exact hbs))⟩
            case measure => simp [intOf]; omega
        · obtain rfl : n1 = j := by omega
          have HV : Hid (pkGo sz 0 0 (px p t) = most) := Lib.hid (by
            rw [← hgo.out, List.drop_of_length_le (by rw [HL1.out]; exact Nat.le_refl _)]
            rfl)
          obtain ⟨xs, hxs⟩ : ∃ xs, (peaksOf sz p).take t = xs := ⟨_, rfl⟩
          have HXS := Lib.hid hxs
          rw [hxs] at hown
          replace hown := (own_keep hown hbs (Nat.le_refl _) : wr.ownsRow w.heap.size 3 1 v t (xs.map (Value.int .i64)))
          clear hxs
          go_wp2_with (at_builtin; (refine wpList_append_ints rfl (.tmp 44) (.tmp 46) 39 rfl w.heap.size 3 i0 Tryd.underlying39 hi hz0 hz1 hz2 _ t xs rfl (hown.alloc _) _ 1 1 wr.heap.size 0 [most] rfl (ints1 (Box.new _ _ 3)) (by omega) (by have := hbr.size; have := hbs.size; simp; omega) ?_))
          intro v' w' hown' hgrow'
          have hbn : Below w.heap.size w w' := Below.grown (Below.al (hbr.trans (hbs.mono hbr.size)) _) hgrow' (by have := hbr.size; have := hbs.size; simp; omega) (fun k hk => (hown.lt k hk).1)
          go_wp2
          go_roundw
          case rel => exact ⟨t + 1, v', rfl, by omega, by go_num, by
            rw [HTK.out, HV.out, HXS.out, List.map_append]
            exact hown', hbn⟩
          case measure => simp [intOf]; omega
    · obtain rfl : n = t := by omega
      rw [List.take_of_length_le (by unfold peaksOf; rw [List.length_map, HL.out]; exact Nat.le_refl _)] at hown
      obtain ⟨a1, k1, b1, hv, hb1, hi1⟩ := IntsAt.of_own hown
      have HV := Lib.hid hv
      clear hv
      go_wp2
      go_ret
      exact ⟨a1, k1, b1, by rw [HV.out]; rfl, hb1, hi1, hbr⟩
theorem peaks_ok (p : PlanD) (m : Nat) (a : Option Addr) (n k b o : Nat) (F : Nat → Prop) (w : World) (h : RowAt Form.plan w F a n k b o p) (hf : planFault m p = 0) :
    Calls Tryd.prog 17 #[.slice a n k, .int .i64 m] w fun e w' => ∃ a1 k1 b1, e = .returned (.tuple #[.slice a1 n k1, .nilIface]) ∧ (0 < n → w.heap.size ≤ b1) ∧ IntsAt w' a1 n k1 b1 0 (peaksOf (fun _ => 1) p) ∧ Below w.heap.size w w' := by
  obtain ⟨hb, hs⟩ := stage_len hf
  have hl := h.len
  have hn : n ≤ 6 ∧ m ≤ 12 := by unfold planBad at hb; omega
  have hlen : ∀ s, s < p.length → (px p s).length ≤ 24 := fun s h1 => by have := (actsFault_ok (hs s h1)).2.2.1; omega
  have HF := Lib.hid hf
  have HLEN := Lib.hid hlen
  clear hb hs hl hf hlen
  go_enter Tryd.func17, Tryd.ntmps17
  go_wp2_with fail
  refine (planCheck_any p m a n k b o F w h).mono ?_
  rintro e w1 ⟨rfl, hb1⟩
  rw [errV_nil HF.out]
  go_wp2_with fail
  refine (held1_ok p trivial (fun _ => 1) (fun _ => by omega) a n k b o F _ (h.keep hb1) hn.1 HLEN.out (fun _ => rfl)).mono ?_
  rintro e w2 ⟨a1, k1, b1, rfl, h1, h2, hb2⟩
  go_wp2
  go_ret2
  exact ⟨a1, k1, b1, rfl, fun h3 => Nat.le_trans hb1.size (h1 h3), h2, (by repeat (first | fail | (with_reducible exact Below.refl _ _) | (with_reducible refine Below.al ?_ _) | (with_reducible refine Below.drN ?_ _) | (with_reducible refine Below.drew ?_) | (with_reducible refine Below.st ?_ ?_ _; rotate_left 1; (first | (dsimp only; omega) | omega | (simp; omega) | simp)) | (with_reducible refine Below.go ?_ hb2) | (with_reducible refine Below.go ?_ hb1) | exact Below.refl _ _))⟩
theorem peaks_bad (p : PlanD) (M : Int) (a : Option Addr) (n k b o : Nat) (F : Nat → Prop) (w : World) (h : RowAt Form.plan w F a n k b o p) (hf : planFault M p ≠ 0) :
    Calls Tryd.prog 17 #[.slice a n k, .int .i64 M] w fun e w' => e = .returned (.tuple #[.slice none 0 0, errV (planFault M p)]) ∧ Below w.heap.size w w' := by
  have HF := Lib.hid hf
  clear hf
  go_enter Tryd.func17, Tryd.ntmps17
  go_wp2_with fail
  refine (planCheck_any p M a n k b o F w h).mono ?_
  rintro e w1 ⟨rfl, hb1⟩
  rw [errV_err HF.out]
  go_wp2
  go_ret2
  exact ⟨by rw [errV_err HF.out]; rfl, hb1⟩
end Go.Proofs.YtjaepdkeldgikaaDoor
