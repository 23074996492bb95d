/- Contracts of package clock: Long, Idle. -/
import Derived.Test.YtjaepdkeldgikaaDoorClk3
import Derived.Test.YtjaepdkeldgikaaDoorPeak1
set_option linter.unusedVariables false
set_option linter.unusedSimpArgs false
set_option linter.unusedSectionVars false
set_option maxRecDepth 100000
namespace Gal
/-- when all has ended -/
def lngL : Int → List SpanD → Int
  | t, [] => t
  | t, x :: l => lngL (max t x.2) l
def lngP : Int → List (List SpanD) → Int
  | t, [] => t
  | t, l :: q => lngP (lngL t l) q
def busyL : List SpanD → Int
  | [] => 0
  | x :: l => (x.2 - x.1) + busyL l
def idleOf (all : Int) (q : List (List SpanD)) : List Int := q.map fun l => all - busyL l
theorem idle_take {all : Int} {q : List (List SpanD)} {t : Nat} (h : t < q.length) : (idleOf all q).take (t + 1) = (idleOf all q).take t ++ [all - busyL (px q t)] := by
  unfold idleOf
  rw [List.take_succ_eq_append_getElem (by simpa using h)]
  have := px_get h
  rw [List.getElem?_eq_getElem h] at this
  simp only [Option.some.injEq] at this
  simp [this]
end Gal
namespace Go.Proofs.YtjaepdkeldgikaaDoor
open Go.RowKit Gal Go.Maps
set_option maxHeartbeats 4000000
theorem clkLong_any (q : List (List SpanD)) (a : Option Addr) (n k b o : Nat) (F : Nat → Prop) (w : World) (h : RowAt Form.plan w F a n k b o q) :
    Calls Tryd.prog 32 #[.slice a n k] w fun e w' => e = .returned (.int .i64 (lngP 0 q)) ∧ Below w.heap.size w w' := by
  have HL := Lib.hid h.len
  have hmx := h.max
  unfold maxLen at hmx
  obtain ⟨R, hR⟩ : ∃ R, lngP 0 q = R := ⟨_, rfl⟩
  rw [hR]
  have HR : Hid (lngP 0 (q.drop 0) = R) := Lib.hid hR
  clear hR
  go_enter Tryd.func32, Tryd.ntmps32
  go_wp2
  go_loopw [3, 10] (fun v i wr => ∃ (t : Nat) (x : Int), t ≤ n ∧ i = .int .i64 t ∧ v = .int .i64 x ∧ Hid (lngP x (q.drop t) = R) ∧ Below w.heap.size w wr) (fun _ i _ => n - (intOf i).toNat)
  case atStart => exact ⟨0, 0, Nat.zero_le _, rfl, rfl, HR, (by repeat (first | fail | (with_reducible exact Below.refl _ _) | (with_reducible refine Below.al ?_ _) | (with_reducible refine Below.drN ?_ _) | (with_reducible refine Below.drew ?_) | (with_reducible refine Below.st ?_ ?_ _; rotate_left 1; (first | (dsimp only; omega) | omega | (simp; omega) | simp)) | exact Below.refl _ _))⟩
  case round =>
    obtain ⟨t, x, ht, rfl, rfl, hgo, hbr⟩ := hrel
    by_cases hlt : t < n
    · obtain rfl := h.ptr (by omega)
      obtain ⟨a1, n1, k1, b1, o1, c0, hr1⟩ := plan_cell (h.keep hbr) hlt
      have hmx1 := hr1.max
      unfold maxLen at hmx1
      have HL1 := Lib.hid hr1.len
      have HGO : Hid (lngP (lngL x ((px q t).drop 0)) (q.drop (t + 1)) = R) := Lib.hid (by rw [← hgo.out, drop_px (t := t) (by rw [HL.out]; exact hlt)]; rfl)
      obtain ⟨ws, rfl⟩ : ∃ ws : World, ws = wr := ⟨_, rfl⟩
      go_wp2
      go_loopw [3, 16] (fun v i wr => ∃ (j : Nat) (y : Int), j ≤ n1 ∧ i = .int .i64 j ∧ v = .int .i64 y ∧ Hid (lngP (lngL y ((px q t).drop j)) (q.drop (t + 1)) = R) ∧ Below ws.heap.size ws wr) (fun _ i _ => n1 - (intOf i).toNat)
      case atStart => exact ⟨0, x, Nat.zero_le _, rfl, rfl, HGO, (by repeat (first | fail | (with_reducible exact Below.refl _ _) | (with_reducible refine Below.al ?_ _) | (with_reducible refine Below.drN ?_ _) | (with_reducible refine Below.drew ?_) | (with_reducible refine Below.st ?_ ?_ _; rotate_left 1; (first | (dsimp only; omega) | omega | (simp; omega) | simp)) | exact Below.refl _ _))⟩
      case round =>
        obtain ⟨j, y, hj, rfl, rfl, hgo2, hbs⟩ := hrel
        by_cases hlt2 : j < n1
        · obtain rfl := hr1.ptr (by omega)
          obtain ⟨d0, d1⟩ := act_cells (hr1.keep hbs) hlt2
          obtain ⟨⟨x0, x1⟩, hx⟩ : ∃ x, ax (px q t) j = x := ⟨_, rfl⟩
          rw [hx] at d0 d1
          dsimp only at d0 d1
          have hgo' := hgo2.out
          rw [drop_ax (by rw [HL1.out]; exact hlt2), hx] at hgo'
          unfold lngL at hgo'
          dsimp only at hgo'
          clear hx
          have hbn : Below ws.heap.size ws (wr.alloc (.cells #[.int .i64 x0, .int .i64 x1] 65)) := (by repeat (first | fail | (with_reducible exact Below.refl _ _) | (with_reducible exact hbs) | (with_reducible refine Below.al ?_ _) | (with_reducible refine Below.drN ?_ _) | (with_reducible refine Below.drew ?_) | (with_reducible refine Below.st ?_ ?_ _; rotate_left 1; (first | (dsimp only; omega) | omega | (simp; omega) | simp)) | exact Below.refl _ _ | exact hbs))
          by_cases hm : y < x1
          · rw [show max y x1 = x1 by omega] at hgo'
            have HGN := Lib.hid hgo'
            clear hgo'
            go_wp2
            go_roundw
            case rel => exact ⟨j + 1, x1, by omega, by go_num, rfl, HGN, hbn⟩
            case measure => simp [intOf]; omega
          · rw [show max y x1 = y by omega] at hgo'
            have HGN := Lib.hid hgo'
            have e3 : (y < x1) = False := by simp; omega
            clear hgo' hm
            go_wp2
            go_roundw
            case rel => exact ⟨j + 1, y, by omega, by go_num, rfl, HGN, hbn⟩
            case measure => simp [intOf]; omega
        · obtain rfl : n1 = j := by omega
          have HNX : Hid (lngP y (q.drop (t + 1)) = R) := Lib.hid (by
            have h1 := hgo2.out
            rw [List.drop_of_length_le (by rw [HL1.out]; exact Nat.le_refl _)] at h1
            exact h1)
          go_wp2
          go_roundw
          case rel => exact ⟨t + 1, y, by omega, by go_num, rfl, HNX, hbr.trans (hbs.mono hbr.size)⟩
          case measure => simp [intOf]; omega
    · obtain rfl : n = t := by omega
      have HV : Hid (R = x) := Lib.hid (by rw [← hgo.out, List.drop_of_length_le (by rw [HL.out]; exact Nat.le_refl _)]; rfl)
      go_wp2
      go_ret
      exact ⟨by rw [HV.out]; rfl, hbr⟩
theorem clkIdle_ok (q : List (List SpanD)) (a : Option Addr) (n k b o : Nat) (F : Nat → Prop) (w : World) (h : RowAt Form.plan w F a n k b o q) (hn : n ≤ 6) (hlen : ∀ s, s < n → (px q s).length ≤ 24)
    (hall : 0 ≤ lngP 0 q ∧ lngP 0 q ≤ 1000000000) (hbd : ∀ s, s < n → ∀ i, i < (px q s).length → (0 ≤ (ax (px q s) i).1 ∧ (ax (px q s) i).1 ≤ 1000000000) ∧ 0 ≤ (ax (px q s) i).2 ∧ (ax (px q s) i).2 ≤ 1000000000) :
    Calls Tryd.prog 33 #[.slice a n k] w fun e w' => ∃ a1 k1 b1, e = .returned (.slice a1 n k1) ∧ IntsAt w' a1 n k1 b1 0 (idleOf (lngP 0 q) q) ∧ Below w.heap.size w w' := by
  have HL := Lib.hid h.len
  have HLEN := Lib.hid hlen
  have HBD := Lib.hid hbd
  obtain ⟨i0, hi, hz0, hz1, hz2⟩ := info_parts info_int'
  obtain ⟨A, hA⟩ : ∃ A, lngP 0 q = A := ⟨_, rfl⟩
  rw [hA] at hall ⊢
  obtain ⟨hA0, hA1⟩ := hall
  have HA := Lib.hid hA
  clear hlen hbd hA
  go_enter Tryd.func33, Tryd.ntmps33
  go_wp2_with fail
  refine (clkLong_any q a n k b o F _ h).mono ?_
  rintro e w1 ⟨rfl, hb1⟩
  rw [HA.out]
  go_wp2
  go_loopw [4, 14] (fun v i wr => ∃ (t : Nat) (v0 : Value), v0 = v ∧ t ≤ n ∧ i = .int .i64 t ∧ wr.ownsRow w.heap.size 3 1 v0 t (((idleOf A q).take t).map (Value.int .i64)) ∧ Below w.heap.size w wr) (fun _ i _ => n - (intOf i).toNat)
  case atStart => exact ⟨0, _, rfl, Nat.zero_le _, rfl, World.ownsRow_nil _ _ _ _, (by repeat (first | fail | (with_reducible exact Below.refl _ _) | (with_reducible refine Below.al ?_ _) | (with_reducible refine Below.drN ?_ _) | (with_reducible refine Below.drew ?_) | (with_reducible refine Below.st ?_ ?_ _; rotate_left 1; (first | (dsimp only; omega) | omega | (simp; omega) | simp)) | (with_reducible refine Below.go ?_ hb1) | exact Below.refl _ _))⟩
  case round =>
    obtain ⟨t, v, rfl, ht, rfl, hown, hbr⟩ := hrel
    by_cases hlt : t < n
    · obtain rfl := h.ptr (by omega)
      obtain ⟨a1, n1, k1, b1, o1, c0, hr1⟩ := plan_cell (h.keep hbr) hlt
      have hl1 : n1 ≤ 24 := by rw [← hr1.len]; exact HLEN.out t hlt
      have HL1 := Lib.hid hr1.len
      obtain ⟨ws, rfl⟩ : ∃ ws : World, ws = wr := ⟨_, rfl⟩
      have HTK := Lib.hid (idle_take (all := A) (q := q) (t := t) (by rw [HL.out]; exact hlt))
      have HLT : Hid (((idleOf A q).take t).length = t) := Lib.hid (by rw [List.length_take]; unfold idleOf; rw [List.length_map, HL.out]; omega)
      go_wp2
      go_loopw [7, 21] (fun u i wr => ∃ (j : Nat) (x : Int), j ≤ n1 ∧ i = .int .i64 j ∧ u = .int .i64 x ∧ Hid (x - busyL ((px q t).drop j) = A - busyL (px q t)) ∧ A - 1000000000 * (j : Int) ≤ x ∧ x ≤ A + 1000000000 * (j : Int) ∧ Below ws.heap.size ws wr) (fun _ i _ => n1 - (intOf i).toNat)
      case atStart => exact ⟨0, A, Nat.zero_le _, rfl, rfl, Lib.hid rfl, by omega, by omega, (by repeat (first | fail | (with_reducible exact Below.refl _ _) | (with_reducible refine Below.al ?_ _) | (with_reducible refine Below.drN ?_ _) | (with_reducible refine Below.drew ?_) | (with_reducible refine Below.st ?_ ?_ _; rotate_left 1; (first | (dsimp only; omega) | omega | (simp; omega) | simp)) | exact Below.refl _ _))⟩
      case round =>
        obtain ⟨j, x, hj, rfl, rfl, hgo, q1, q2, hbs⟩ := hrel
        by_cases hlt2 : j < n1
        · obtain rfl := hr1.ptr (by omega)
          obtain ⟨d0, d1⟩ := act_cells (hr1.keep hbs) hlt2
          have hxb := HBD.out t hlt j (by rw [HL1.out]; exact hlt2)
          have hgo' := hgo.out
          rw [drop_ax (by rw [HL1.out]; exact hlt2)] at hgo'
          obtain ⟨⟨x0, x1⟩, hx⟩ : ∃ x, ax (px q t) j = x := ⟨_, rfl⟩
          rw [hx] at d0 d1 hxb hgo'
          dsimp only at d0 d1 hxb
          obtain ⟨⟨y1, y2⟩, y3, y4⟩ := hxb
          have HGN : Hid (x - (x1 - x0) - busyL ((px q t).drop (j + 1)) = A - busyL (px q t)) := Lib.hid (by
            rw [← hgo', busyL]; dsimp only; omega)
          clear hx hgo'
          have hbn : Below ws.heap.size ws (wr.alloc (.cells #[.int .i64 x0, .int .i64 x1] 65)) := (by repeat (first | fail | (with_reducible exact Below.refl _ _) | (with_reducible exact hbs) | (with_reducible refine Below.al ?_ _) | (with_reducible refine Below.drN ?_ _) | (with_reducible refine Below.drew ?_) | (with_reducible refine Below.st ?_ ?_ _; rotate_left 1; (first | (dsimp only; omega) | omega | (simp; omega) | simp)) | exact Below.refl _ _ | exact hbs))
          go_wp2
          go_roundw
          case rel => exact ⟨j + 1, x - (x1 - x0), by omega, by go_num, rfl, HGN, by omega, by omega, hbn⟩
          case measure => simp [intOf]; omega
        · obtain rfl : n1 = j := by omega
          have HV : Hid (A - busyL (px q t) = x) := Lib.hid (by
            rw [← hgo.out, List.drop_of_length_le (by rw [HL1.out]; exact Nat.le_refl _)]
            simp [busyL])
          obtain ⟨xs, hxs⟩ : ∃ xs, (idleOf A q).take t = xs := ⟨_, rfl⟩
          have HXS := Lib.hid hxs
          rw [hxs] at hown
          replace hown := (own_keep hown hbs (Nat.le_refl _) : wr.ownsRow w.heap.size 3 1 v t (xs.map (Value.int .i64)))
          clear hxs
          go_wp2_with (at_builtin; (refine wpList_append_ints rfl (.tmp 33) (.tmp 35) 39 rfl w.heap.size 3 i0 Tryd.underlying39 hi hz0 hz1 hz2 _ t xs rfl (hown.alloc _) _ 1 1 wr.heap.size 0 [x] rfl (ints1 (Box.new _ _ 3)) (by omega) (by have := hbr.size; have := hbs.size; simp; omega) ?_))
          intro v' w' hown' hgrow'
          have hbn : Below w.heap.size w w' := Below.grown (Below.al (hbr.trans (hbs.mono hbr.size)) _) hgrow' (by have := hbr.size; have := hbs.size; simp; omega) (fun k hk => (hown.lt k hk).1)
          go_wp2
          go_roundw
          case rel => exact ⟨t + 1, v', rfl, by omega, by go_num, by
            rw [HTK.out, HV.out, HXS.out, List.map_append]
            exact hown', hbn⟩
          case measure => simp [intOf]; omega
    · obtain rfl : n = t := by omega
      rw [List.take_of_length_le (by unfold idleOf; rw [List.length_map, HL.out]; exact Nat.le_refl _)] at hown
      obtain ⟨a1, k1, b1, hv, hb1, hi1⟩ := IntsAt.of_own hown
      have HV := Lib.hid hv
      clear hv
      go_wp2
      go_ret
      exact ⟨a1, k1, b1, by rw [HV.out]; rfl, hi1, hbr⟩
end Go.Proofs.YtjaepdkeldgikaaDoor
