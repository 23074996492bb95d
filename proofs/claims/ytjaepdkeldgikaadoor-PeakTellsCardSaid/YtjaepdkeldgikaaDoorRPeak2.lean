/- Contracts of package peak: Held. -/
import Derived.Test.YtjaepdkeldgikaaDoorRPeak1
set_option linter.unusedVariables false
set_option linter.unusedSimpArgs false
set_option linter.unusedSectionVars false
set_option maxRecDepth 100000
namespace Go.Proofs.YtjaepdkeldgikaaDoor
open Go.RowKit Gal Go.Maps
set_option maxHeartbeats 4000000
theorem heldsz_any (x1 : Int) (xs : List Int) (q : Nat) (T : TypeId) (a' : Option Addr) (n' k' b' o' : Nat) (w : World) (hq : Box w q [.slice a' n' k'] T) (h' : IntsAt w a' n' k' b' o' xs) (hx : 0 ≤ x1 ∧ x1 < (n' : Int)) :
    Calls Tryd.prog 46 #[.int .i64 x1, .pointer (some ⟨q, 0, none⟩)] w fun e w' => e = .returned (.int .i64 (szOf xs x1)) ∧ w = w' := by
  obtain ⟨y, rfl⟩ : ∃ y : Nat, x1 = y := ⟨x1.toNat, by omega⟩
  have hy : y < n' := by omega
  obtain rfl := h'.ptr (by omega)
  have hmx := h'.max
  unfold maxLen at hmx
  have c0 := hq.cell 0
  have c1 := h'.cell y hy
  have HS : Hid (szOf xs (y : Int) = ix xs y) := Lib.hid (by unfold szOf; rw [Int.toNat_natCast])
  clear hx
  go_enter Tryd.func46, Tryd.ntmps46
  go_wp2
  go_ret
  exact ⟨by rw [HS.out]; rfl, rfl⟩
theorem held2_ok (p : PlanD) (xs : List Int) (q : Nat) (T : TypeId) (a' : Option Addr) (n' k' b' o' : Nat) (sz : Int → Int) (hsz : ∀ j, 0 ≤ sz j ∧ sz j ≤ 1000000) (a : Option Addr) (n k b o : Nat) (F : Nat → Prop) (w : World) (h : RowAt Form.plan w F a n k b o p) (hn : n ≤ 6) (hlen : ∀ s, s < p.length → (px p s).length ≤ 24) (hsz1 : sz = szOf xs) (hq : Box w q [.slice a' n' k'] T) (h' : IntsAt w a' n' k' b' o' xs) (hin : ∀ s, s < p.length → ∀ j, j < (px p s).length → 0 ≤ (ax (px p s) j).2 ∧ (ax (px p s) j).2 < (n' : Int)) :
    Calls Tryd.prog 44 #[.slice a n k, .func (.func 46) #[] #[.pointer (some ⟨q, 0, none⟩)]] w fun e w' => ∃ a1 k1 b1, e = .returned (.slice a1 n k1) ∧ (0 < n → w.heap.size ≤ b1) ∧ IntsAt w' a1 n k1 b1 0 (peaksOf sz p) ∧ Below w.heap.size w w' := by
  have HL := Lib.hid h.len
  have HLEN := Lib.hid hlen
  have HSZ := Lib.hid hsz
  obtain ⟨i0, hi, hz0, hz1, hz2⟩ := info_parts info_int'
  clear hlen hsz
  go_enter Tryd.func44, Tryd.ntmps44
  go_wp2
  go_loopw [5, 14] (fun v i wr => ∃ (t : Nat) (v0 : Value), v0 = v ∧ t ≤ n ∧ i = .int .i64 t ∧ wr.ownsRow w.heap.size 3 1 v0 t (((peaksOf sz p).take t).map (Value.int .i64)) ∧ Below w.heap.size w wr) (fun _ i _ => n - (intOf i).toNat)
  case atStart => exact ⟨0, _, rfl, Nat.zero_le _, rfl, World.ownsRow_nil _ _ _ _, (by repeat (first | fail | (with_reducible exact Below.refl _ _) | (with_reducible refine Below.al ?_ _) | (with_reducible refine Below.drN ?_ _) | (with_reducible refine Below.drew ?_) | (with_reducible refine Below.st ?_ ?_ _; rotate_left 1; (first | (dsimp only; omega) | omega | (simp; omega) | simp)) | exact Below.refl _ _))⟩
  case round =>
    obtain ⟨t, v, rfl, ht, rfl, hown, hbr⟩ := hrel
    by_cases hlt : t < n
    · obtain rfl := h.ptr (by omega)
      obtain ⟨a1, n1, k1, b1, o1, c0, hr1⟩ := plan_cell (h.keep hbr) hlt
      have hl1 : n1 ≤ 24 := by rw [← hr1.len]; exact HLEN.out t (by rw [HL.out]; exact hlt)
      have HL1 := Lib.hid hr1.len
      obtain ⟨ws, rfl⟩ : ∃ ws : World, ws = wr := ⟨_, rfl⟩
      have HTK := Lib.hid (peaksOf_take (sz := sz) (p := p) (t := t) (by rw [HL.out]; exact hlt))
      have HLT : Hid (((peaksOf sz p).take t).length = t) := Lib.hid (by rw [List.length_take]; unfold peaksOf; rw [List.length_map, HL.out]; omega)
      go_wp2
      go_loopw [8, 9, 20] (fun u q i wr => ∃ (j : Nat) (now most : Int), j ≤ n1 ∧ i = .int .i64 j ∧ u = .int .i64 now ∧ q = .int .i64 most ∧ Hid (pkGo sz now most ((px p t).drop j) = pkGo sz 0 0 (px p t)) ∧ -1000000 * (j : Int) ≤ now ∧ now ≤ 1000000 * (j : Int) ∧ 0 ≤ most ∧ most ≤ 1000000 * (j : Int) ∧ Below ws.heap.size ws wr) (fun _ _ i _ => n1 - (intOf i).toNat)
      case atStart => exact ⟨0, 0, 0, Nat.zero_le _, rfl, rfl, rfl, Lib.hid rfl, by omega, by omega, by omega, by omega, (by repeat (first | fail | (with_reducible exact Below.refl _ _) | (with_reducible refine Below.al ?_ _) | (with_reducible refine Below.drN ?_ _) | (with_reducible refine Below.drew ?_) | (with_reducible refine Below.st ?_ ?_ _; rotate_left 1; (first | (dsimp only; omega) | omega | (simp; omega) | simp)) | exact Below.refl _ _))⟩
      case round =>
        obtain ⟨j, now, most, hj, rfl, rfl, rfl, hgo, q1, q2, q3, q4, hbs⟩ := hrel
        by_cases hlt2 : j < n1
        · obtain rfl := hr1.ptr (by omega)
          obtain ⟨d0, d1⟩ := act_cells (hr1.keep hbs) hlt2
          obtain ⟨⟨x0, x1⟩, hx⟩ : ∃ x, ax (px p t) j = x := ⟨_, rfl⟩
          rw [hx] at d0 d1
          dsimp only at d0 d1
          have hgo' := hgo.out
          rw [drop_ax (by rw [HL1.out]; exact hlt2), hx] at hgo'
          rw [pkGo_cons] at hgo'
          dsimp only at hgo'
          obtain ⟨y, hy⟩ : ∃ y, sz x1 = y := ⟨_, rfl⟩
          have hyb := HSZ.out x1
          rw [hy] at hyb hgo'
          obtain ⟨y1, y2⟩ := hyb
          have HY := Lib.hid hy
          have HXX := Lib.hid hx
          clear hx hy
          by_cases k1 : x0 = 1
          · rw [if_pos k1] at hgo'
            have e1 : (x0 == 1) = true := by simp [k1]
            clear k1
            rcases Int.lt_or_le most (now + y) with hm | hm
            · rw [show max most (now + y) = now + y by omega] at hgo'
              have HGO := Lib.hid hgo'
              have e2 : (now + y > most) = True := by simp; omega
              have e3 : most < now + y := hm
              clear hgo'
              go_wp2_with fail
              refine ((heldsz_any x1 xs q T a' n' k' b' o' _ (hq.keep (by repeat (first | fail | (with_reducible exact Below.refl _ _) | (with_reducible exact hbr) | (with_reducible refine Below.al ?_ _) | (with_reducible refine Below.drN ?_ _) | (with_reducible refine Below.drew ?_) | (with_reducible refine Below.st ?_ ?_ _; rotate_left 1; (first | (dsimp only; omega) | omega | (simp; omega) | simp)) | (with_reducible refine Below.go ?_ hbs) | exact Below.refl _ _ | exact hbr))) (h'.keep (by repeat (first | fail | (with_reducible exact Below.refl _ _) | (with_reducible exact hbr) | (with_reducible refine Below.al ?_ _) | (with_reducible refine Below.drN ?_ _) | (with_reducible refine Below.drew ?_) | (with_reducible refine Below.st ?_ ?_ _; rotate_left 1; (first | (dsimp only; omega) | omega | (simp; omega) | simp)) | (with_reducible refine Below.go ?_ hbs) | exact Below.refl _ _ | exact hbr))) (by have h9 := hin t (by rw [HL.out]; exact hlt) j (by rw [HL1.out]; exact hlt2); rw [HXX.out] at h9; exact h9)).mono fun e w' hh => (⟨hh.1.trans (by rw [hsz1]), hh.2⟩ : e = .returned (.int .i64 (sz x1)) ∧ _ = w')).mono ?_
              rintro e wc ⟨rfl, rfl⟩
              rw [HY.out]
              go_wp2
              go_roundw
              case rel => exact ⟨j + 1, now + y, now + y, by omega, by go_num, rfl, rfl, HGO, by omega, by omega, by omega, by omega, (by repeat (first | fail | (with_reducible exact Below.refl _ _) | (with_reducible exact hbs) | (with_reducible refine Below.al ?_ _) | (with_reducible refine Below.drN ?_ _) | (with_reducible refine Below.drew ?_) | (with_reducible refine Below.st ?_ ?_ _; rotate_left 1; (first | (dsimp only; omega) | omega | (simp; omega) | simp)) | exact Below.refl _ _ | exact hbs))⟩
              case measure => simp [intOf]; omega
            · rw [show max most (now + y) = most by omega] at hgo'
              have HGO := Lib.hid hgo'
              have e3 : (most < now + y) = False := by simp; omega
              clear hgo'
              go_wp2_with fail
              refine ((heldsz_any x1 xs q T a' n' k' b' o' _ (hq.keep (by repeat (first | fail | (with_reducible exact Below.refl _ _) | (with_reducible exact hbr) | (with_reducible refine Below.al ?_ _) | (with_reducible refine Below.drN ?_ _) | (with_reducible refine Below.drew ?_) | (with_reducible refine Below.st ?_ ?_ _; rotate_left 1; (first | (dsimp only; omega) | omega | (simp; omega) | simp)) | (with_reducible refine Below.go ?_ hbs) | exact Below.refl _ _ | exact hbr))) (h'.keep (by repeat (first | fail | (with_reducible exact Below.refl _ _) | (with_reducible exact hbr) | (with_reducible refine Below.al ?_ _) | (with_reducible refine Below.drN ?_ _) | (with_reducible refine Below.drew ?_) | (with_reducible refine Below.st ?_ ?_ _; rotate_left 1; (first | (dsimp only; omega) | omega | (simp; omega) | simp)) | (with_reducible refine Below.go ?_ hbs) | exact Below.refl _ _ | exact hbr))) (by have h9 := hin t (by rw [HL.out]; exact hlt) j (by rw [HL1.out]; exact hlt2); rw [HXX.out] at h9; exact h9)).mono fun e w' hh => (⟨hh.1.trans (by rw [hsz1]), hh.2⟩ : e = .returned (.int .i64 (sz x1)) ∧ _ = w')).mono ?_
              rintro e wc ⟨rfl, rfl⟩
              rw [HY.out]
              go_wp2
              go_roundw
              case rel => exact ⟨j + 1, now + y, most, by omega, by go_num, rfl, rfl, HGO, by omega, by omega, by omega, by omega, (by repeat (first | fail | (with_reducible exact Below.refl _ _) | (with_reducible exact hbs) | (with_reducible refine Below.al ?_ _) | (with_reducible refine Below.drN ?_ _) | (with_reducible refine Below.drew ?_) | (with_reducible refine Below.st ?_ ?_ _; rotate_left 1; (first | (dsimp only; omega) | omega | (simp; omega) | simp)) | exact Below.refl _ _ | exact hbs))⟩
              case measure => simp [intOf]; omega
          · rw [if_neg k1] at hgo'
            have HGO := Lib.hid hgo'
            have e1 : (x0 == 1) = false := by simp [k1]
            clear k1 hgo'
            go_wp2_with fail
            refine ((heldsz_any x1 xs q T a' n' k' b' o' _ (hq.keep (by repeat (first | fail | (with_reducible exact Below.refl _ _) | (with_reducible exact hbr) | (with_reducible refine Below.al ?_ _) | (with_reducible refine Below.drN ?_ _) | (with_reducible refine Below.drew ?_) | (with_reducible refine Below.st ?_ ?_ _; rotate_left 1; (first | (dsimp only; omega) | omega | (simp; omega) | simp)) | (with_reducible refine Below.go ?_ hbs) | exact Below.refl _ _ | exact hbr))) (h'.keep (by repeat (first | fail | (with_reducible exact Below.refl _ _) | (with_reducible exact hbr) | (with_reducible refine Below.al ?_ _) | (with_reducible refine Below.drN ?_ _) | (with_reducible refine Below.drew ?_) | (with_reducible refine Below.st ?_ ?_ _; rotate_left 1; (first | (dsimp only; omega) | omega | (simp; omega) | simp)) | (with_reducible refine Below.go ?_ hbs) | exact Below.refl _ _ | exact hbr))) (by have h9 := hin t (by rw [HL.out]; exact hlt) j (by rw [HL1.out]; exact hlt2); rw [HXX.out] at h9; exact h9)).mono fun e w' hh => (⟨hh.1.trans (by rw [hsz1]), hh.2⟩ : e = .returned (.int .i64 (sz x1)) ∧ _ = w')).mono ?_
            rintro e wc ⟨rfl, rfl⟩
            rw [HY.out]
            go_wp2
            go_roundw
            case rel => exact ⟨j + 1, now - y, most, by omega, by go_num, rfl, rfl, HGO, by omega, by omega, by omega, by omega, (by repeat (first | fail | (with_reducible exact Below.refl _ _) | (with_reducible exact hbs) | (with_reducible refine Below.al ?_ _) | (with_reducible refine Below.drN ?_ _) | (with_reducible refine Below.drew ?_) | (with_reducible refine Below.st ?_ ?_ _; rotate_left 1; (first | (dsimp only; omega) | omega | (simp; omega) | simp)) | exact Below.refl _ _ | exact hbs))⟩
            case measure => simp [intOf]; omega
        · obtain rfl : n1 = j := by omega
          have HV : Hid (pkGo sz 0 0 (px p t) = most) := Lib.hid (by
            rw [← hgo.out, List.drop_of_length_le (by rw [HL1.out]; exact Nat.le_refl _)]
            rfl)
          obtain ⟨xs, hxs⟩ : ∃ xs, (peaksOf sz p).take t = xs := ⟨_, rfl⟩
          have HXS := Lib.hid hxs
          rw [hxs] at hown
          replace hown := (own_keep hown hbs (Nat.le_refl _) : wr.ownsRow w.heap.size 3 1 v t (xs.map (Value.int .i64)))
          clear hxs
          go_wp2_with (at_builtin; (refine wpList_append_ints rfl (.tmp 44) (.tmp 46) 39 rfl w.heap.size 3 i0 Tryd.underlying39 hi hz0 hz1 hz2 _ t xs rfl (hown.alloc _) _ 1 1 wr.heap.size 0 [most] rfl (ints1 (Box.new _ _ 3)) (by omega) (by have := hbr.size; have := hbs.size; simp; omega) ?_))
          intro v' w' hown' hgrow'
          have hbn : Below w.heap.size w w' := Below.grown (Below.al (hbr.trans (hbs.mono hbr.size)) _) hgrow' (by have := hbr.size; have := hbs.size; simp; omega) (fun k hk => (hown.lt k hk).1)
          go_wp2
          go_roundw
          case rel => exact ⟨t + 1, v', rfl, by omega, by go_num, by
            rw [HTK.out, HV.out, HXS.out, List.map_append]
            exact hown', hbn⟩
          case measure => simp [intOf]; omega
    · obtain rfl : n = t := by omega
      rw [List.take_of_length_le (by unfold peaksOf; rw [List.length_map, HL.out]; exact Nat.le_refl _)] at hown
      obtain ⟨a1, k1, b1, hv, hb1, hi1⟩ := IntsAt.of_own hown
      have HV := Lib.hid hv
      clear hv
      go_wp2
      go_ret
      exact ⟨a1, k1, b1, by rw [HV.out]; rfl, hb1, hi1, hbr⟩
theorem peakHeld_bad (p : PlanD) (M : Int) (a a' : Option Addr) (n k b o n' k' : Nat) (F : Nat → Prop) (w : World) (h : RowAt Form.plan w F a n k b o p) (hf : planFault M p ≠ 0) :
    Calls Tryd.prog 18 #[.slice a n k, .int .i64 M, .slice a' n' k'] w fun e w' => e = .returned (.tuple #[.slice none 0 0, errV (planFault M p)]) ∧ Below w.heap.size w w' := by
  have HF := Lib.hid hf
  clear hf
  go_enter Tryd.func18, Tryd.ntmps18
  go_wp2_with fail
  refine (planCheck_any p M a n k b o F _ (h.alloc _)).mono ?_
  rintro e w1 ⟨rfl, hb1⟩
  rw [errV_err HF.out]
  go_wp2
  go_ret2
  exact ⟨by rw [errV_err HF.out]; rfl, (by repeat (first | fail | (with_reducible exact Below.refl _ _) | (with_reducible refine Below.al ?_ _) | (with_reducible refine Below.drN ?_ _) | (with_reducible refine Below.drew ?_) | (with_reducible refine Below.st ?_ ?_ _; rotate_left 1; (first | (dsimp only; omega) | omega | (simp; omega) | simp)) | (with_reducible refine Below.go ?_ hb1) | exact Below.refl _ _))⟩
theorem peakHeld_len (p : PlanD) (M : Int) (a a' : Option Addr) (n k b o n' k' : Nat) (F : Nat → Prop) (w : World) (h : RowAt Form.plan w F a n k b o p) (hf : planFault M p = 0) (hn : (n' : Int) ≠ M) (hmx' : n' ≤ 9223372036854775807) :
    Calls Tryd.prog 18 #[.slice a n k, .int .i64 M, .slice a' n' k'] w fun e w' => e = .returned (.tuple #[.slice none 0 0, errV 2]) ∧ Below w.heap.size w w' := by
  have HF := Lib.hid hf
  have e1 : ((n' : Int) != M) = true := by simp [hn]
  clear hf hn
  go_enter Tryd.func18, Tryd.ntmps18
  go_wp2_with fail
  refine (planCheck_any p M a n k b o F _ (h.alloc _)).mono ?_
  rintro e w1 ⟨rfl, hb1⟩
  rw [errV_nil HF.out]
  have hq := (Box.new' w w.heap.size [.slice a' n' k'] 39 rfl).keep hb1
  have c0 := hq.cell 0
  go_wp2
  go_ret2
  exact ⟨rfl, (by repeat (first | fail | (with_reducible exact Below.refl _ _) | (with_reducible refine Below.al ?_ _) | (with_reducible refine Below.drN ?_ _) | (with_reducible refine Below.drew ?_) | (with_reducible refine Below.st ?_ ?_ _; rotate_left 1; (first | (dsimp only; omega) | omega | (simp; omega) | simp)) | (with_reducible refine Below.go ?_ hb1) | exact Below.refl _ _))⟩
theorem peakHeld_any (p : PlanD) (xs : List Int) (a a' : Option Addr) (n k b o n' k' b' o' : Nat) (F : Nat → Prop) (w : World) (h : RowAt Form.plan w F a n k b o p) (h' : IntsAt w a' n' k' b' o' xs) (hf : planFault n' p = 0) :
    Calls Tryd.prog 18 #[.slice a n k, .int .i64 n', .slice a' n' k'] w fun e w' => ((costsFault xs = 1 ∧ e = .returned (.tuple #[.slice none 0 0, errV 1])) ∨ (costsFault xs = 0 ∧ ∃ a1 k1 b1, e = .returned (.tuple #[.slice a1 n k1, .nilIface]) ∧ (0 < n → w.heap.size ≤ b1) ∧ IntsAt w' a1 n k1 b1 0 (peaksOf (szOf xs) p))) ∧ Below w.heap.size w w' := by
  obtain ⟨hb, hs⟩ := stage_len hf
  have hl := h.len
  have hn : n ≤ 6 ∧ n' ≤ 12 := by unfold planBad at hb; omega
  have hlen : ∀ s, s < p.length → (px p s).length ≤ 24 := fun s h1 => by have := (actsFault_ok (hs s h1)).2.2.1; omega
  have hin : ∀ s, s < p.length → ∀ j, j < (px p s).length → 0 ≤ (ax (px p s) j).2 ∧ (ax (px p s) j).2 < (n' : Int) := fun s h1 j h2 => ((actsFault_ok (hs s h1)).1 j h2).2
  obtain ⟨n6, n12⟩ := hn
  have HF := Lib.hid hf
  have HLEN := Lib.hid hlen
  have HIN := Lib.hid hin
  have e1 : ((n' : Int) != (n' : Int)) = false := by simp
  have HN := Lib.hid h'.len
  clear hf hb hs hl hlen hin
  go_enter Tryd.func18, Tryd.ntmps18
  go_wp2_with fail
  refine (planCheck_any p n' a n k b o F _ (h.alloc _)).mono ?_
  rintro e w1 ⟨rfl, hb1⟩
  rw [errV_nil HF.out]
  have hq := (Box.new' w w.heap.size [.slice a' n' k'] 39 rfl).keep hb1
  have c0 := hq.cell 0
  have hbw : Below w.heap.size w w1 := (by repeat (first | fail | (with_reducible exact Below.refl _ _) | (with_reducible refine Below.al ?_ _) | (with_reducible refine Below.drN ?_ _) | (with_reducible refine Below.drew ?_) | (with_reducible refine Below.st ?_ ?_ _; rotate_left 1; (first | (dsimp only; omega) | omega | (simp; omega) | simp)) | (with_reducible refine Below.go ?_ hb1) | exact Below.refl _ _))
  replace h := h.keep hbw
  replace h' := h'.keep hbw
  clear hb1
  go_wp2
  go_loopw [24] (fun i wr => ∃ t : Nat, t ≤ n' ∧ i = .int .i64 t ∧ Hid (costsTo xs t) ∧ wr = w1.drewN 0) (fun i _ => n' - (intOf i).toNat)
  case atStart => exact ⟨0, Nat.zero_le _, rfl, Lib.hid trivial, rfl⟩
  case round =>
    obtain ⟨t, ht, rfl, hok, rfl⟩ := hrel
    by_cases hlt : t < n'
    · obtain rfl := h'.ptr (by omega)
      have cx := h'.cell t hlt
      obtain ⟨x, hx⟩ : ∃ x, ix xs t = x := ⟨_, rfl⟩
      rw [hx] at cx
      have HX := Lib.hid hx
      clear hx
      by_cases g1 : x < 0
      · skip
        have HC : Hid (costsFault xs = 1) := Lib.hid (by unfold costsFault; rw [if_neg]; exact fun h2 => by have h3 := costsTo_iff.1 h2 t (by rw [HN.out]; exact hlt); rw [HX.out] at h3; omega)
        go_wp2
        go_ret2
        exact ⟨Or.inl ⟨HC.out, rfl⟩, hbw⟩
      · have e2 : (x < 0) = False := by simp; omega
        by_cases g2 : x > 1000000
        · skip
          have HC : Hid (costsFault xs = 1) := Lib.hid (by unfold costsFault; rw [if_neg]; exact fun h2 => by have h3 := costsTo_iff.1 h2 t (by rw [HN.out]; exact hlt); rw [HX.out] at h3; omega)
          go_wp2
          go_ret2
          exact ⟨Or.inl ⟨HC.out, rfl⟩, hbw⟩
        · have e3 : (x > 1000000) = False := by simp; omega
          have HNX : Hid (costsTo xs (t + 1)) := Lib.hid ⟨hok.out, by rw [HX.out]; omega, by rw [HX.out]; omega⟩
          clear g1 g2
          go_wp2
          go_roundw
          case rel => exact ⟨t + 1, by omega, by go_num, HNX, by trivial⟩
          case measure => simp [intOf]; omega
    · obtain rfl : n' = t := by omega
      have HC : Hid (costsFault xs = 0) := Lib.hid (by unfold costsFault; rw [if_pos (by rw [HN.out]; exact hok.out)])
      go_wp2_with fail
      refine (held2_ok p xs w.heap.size 39 a' n' k' b' o' (szOf xs) (fun j => szOf_bd HC.out j) a n k b o F _ (h : RowAt Form.plan (w1.drewN 0) F a n k b o p) n6 HLEN.out rfl hq h' HIN.out).mono ?_
      rintro e w2 ⟨a1, k1, b1, rfl, h1, h2, hb2⟩
      go_wp2
      go_ret2
      exact ⟨Or.inr ⟨HC.out, a1, k1, b1, rfl, fun h3 => Nat.le_trans hbw.size (h1 h3), h2⟩, hbw.trans (hb2.mono hbw.size)⟩
end Go.Proofs.YtjaepdkeldgikaaDoor
