/- Some small texts, joined: Ref1, Ref2, Ref3, Ref4. -/
import Derived.Test.YtikcdjibflleeaaDoorJMat
import Derived.Test.YtikcdjibflleeaaDoorBaseR
import Derived.Test.YtikcdjibflleeaaDoorBaseP
import Derived.BigQuiet
import Derived.BigRegion
section
set_option linter.unusedVariables false
set_option linter.unusedSimpArgs false
namespace Go.Proofs.YtikcdjibflleeaaDoor
open Go.RowKit Gal

theorem clamp_iff (x : Int) : clamp x = x ↔ -2147483647 ≤ x ∧ x ≤ 2147483647 := by unfold clamp; omega

set_option maxRecDepth 100000 in
set_option maxHeartbeats 1000000 in
theorem refMatFault_any (m : Mat) (v : Value) (w : World) (h : MatAt w v m) :
    Calls Tryd.prog 9 #[v] w fun e w' => e = .returned (.int .i64 m.fault) ∧ Below w.heap.size w w' := by
  obtain ⟨r, c, xs⟩ := m
  obtain ⟨a, n, cap, b, off, rfl, hm⟩ := h
  unfold Mat.fault
  dsimp only at hm ⊢
  by_cases h1 : r < 0 ∨ 24 < r ∨ c < 0 ∨ 12 < c
  · have hf : matFault r c xs = 1 := by unfold matFault; rw [if_pos h1]
    rw [hf]
    clear hf hm
    go_enter Tryd.func9, Tryd.ntmps9
    go_wp2
    all_goals (go_ret; exact ⟨rfl, (by repeat (first | fail | (with_reducible exact Below.refl _ _) | (with_reducible refine Below.al ?_ _) | (with_reducible refine Below.drN ?_ _) | (with_reducible refine Below.drew ?_) | (with_reducible refine Below.st ?_ ?_ _; rotate_left 1; (first | (dsimp only; omega) | omega | (simp; omega) | simp)) | exact Below.refl _ _))⟩)
  · have g1 : 0 ≤ r ∧ r ≤ 24 ∧ 0 ≤ c ∧ c ≤ 12 := by omega
    obtain ⟨r0, r1, c0, c1⟩ := g1
    obtain ⟨R, rfl⟩ := Int.eq_ofNat_of_zero_le r0
    obtain ⟨C, rfl⟩ := Int.eq_ofNat_of_zero_le c0
    have hrc : (R : Int) * C ≤ 288 := by
      have := Nat.mul_le_mul (show R ≤ 24 by omega) (show C ≤ 12 by omega)
      rw [← Int.natCast_mul]; omega
    have hrc0 : 0 ≤ (R : Int) * C := by rw [← Int.natCast_mul]; omega
    have hl := hm.len
    have hmx := hm.max
    unfold maxLen at hmx
    by_cases h2 : (n : Int) = R * C
    · have hne : ((n : Int) != R * C) = false := by simp [h2]
      have hn : n ≤ 288 := by omega
      have hf : matFault R C xs = if inEnds xs then 0 else 1 := by unfold matFault; rw [if_neg h1, if_neg (by rw [hl]; omega)]
      have HF := Lib.hid hf
      clear hf h2 h1
      go_enter Tryd.func9, Tryd.ntmps9
      go_wp2
      go_loop [3] (fun i => ∃ k : Nat, k ≤ n ∧ i = .int .i64 k ∧ ∀ j, j < k → clamp (ix xs j) = ix xs j) (fun i => n - (intOf i).toNat)
      case atStart => exact ⟨0, Nat.zero_le _, rfl, fun j hj => absurd hj (Nat.not_lt_zero _)⟩
      case round =>
        obtain ⟨k, hk, rfl, hpre⟩ := hrel
        have HP := Lib.hid hpre
        clear hpre
        by_cases hlt : k < n
        · have hn0 : 0 < n := by omega
          obtain rfl := hm.ptr hn0
          have hb0 := hm.lt hn0
          have hb := lt_add hb0
          have hc := hm.cell k hlt
          by_cases hx : clamp (ix xs k) = ix xs k
          · have hxx := (clamp_iff _).1 hx
            have y1 : decide (ix xs k < -2147483647) = false := decide_eq_false (by omega)
            have y2 : decide (2147483647 < ix xs k) = false := decide_eq_false (by omega)
            clear hxx
            have HX := Lib.hid hx
            clear hx
            go_wp2
            go_round
            case rel => exact ⟨k + 1, by omega, by go_num, fun j hj => by
              by_cases e : j = k
              · rw [e]; exact HX.out
              · exact HP.out j (by omega)⟩
            case measure => simp [intOf]; omega
          · have hor : decide (ix xs k < -2147483647) = true ∨ decide (ix xs k < -2147483647) = false ∧ decide (2147483647 < ix xs k) = true := by
              rw [clamp_iff] at hx
              simp only [decide_eq_true_eq, decide_eq_false_iff_not]
              omega
            have HX := Lib.hid hx
            clear hx
            rcases hor with hor | ⟨hor, hor2⟩
            all_goals
              go_wp2
              go_ret
              refine ⟨ret_val ?_, (by repeat (first | fail | (with_reducible exact Below.refl _ _) | (with_reducible refine Below.al ?_ _) | (with_reducible refine Below.drN ?_ _) | (with_reducible refine Below.drew ?_) | (with_reducible refine Below.st ?_ ?_ _; rotate_left 1; (first | (dsimp only; omega) | omega | (simp; omega) | simp)) | exact Below.refl _ _))⟩
              rw [HF.out, if_neg (fun h => HX.out (h k (by rw [hl]; exact hlt)))]
              rfl
        · go_wp2
          go_ret
          refine ⟨ret_val ?_, (by repeat (first | fail | (with_reducible exact Below.refl _ _) | (with_reducible refine Below.al ?_ _) | (with_reducible refine Below.drN ?_ _) | (with_reducible refine Below.drew ?_) | (with_reducible refine Below.st ?_ ?_ _; rotate_left 1; (first | (dsimp only; omega) | omega | (simp; omega) | simp)) | exact Below.refl _ _))⟩
          rw [HF.out, if_pos (show inEnds xs from fun j hj => HP.out j (by omega))]
          rfl
    · have hne : ((n : Int) != R * C) = true := by simp [h2]
      have hf : matFault R C xs = 2 := by unfold matFault; rw [if_neg h1, if_pos (by rw [hl]; exact h2)]
      rw [hf]
      clear hf h1 h2
      go_enter Tryd.func9, Tryd.ntmps9
      go_wp2
      go_ret
      exact ⟨rfl, (by repeat (first | fail | (with_reducible exact Below.refl _ _) | (with_reducible refine Below.al ?_ _) | (with_reducible refine Below.drN ?_ _) | (with_reducible refine Below.drew ?_) | (with_reducible refine Below.st ?_ ?_ _; rotate_left 1; (first | (dsimp only; omega) | omega | (simp; omega) | simp)) | exact Below.refl _ _))⟩

theorem firstFault_pair (a b : Mat) : firstFault [a, b] = if a.fault = 0 then b.fault else a.fault := by
  by_cases h : a.fault = 0 <;> by_cases h' : b.fault = 0 <;> simp [firstFault, h, h']
set_option maxRecDepth 100000 in
set_option maxHeartbeats 1000000 in
theorem refLossFault_any (ma mb : Mat) (va vb : Value) (w : World) (ha : MatAt w va ma) (hb : MatAt w vb mb) :
    Calls Tryd.prog 29 #[va, vb] w fun e w' => e = .returned (.int .i64 (lossFault ma mb)) ∧ Below w.heap.size w w' := by
  obtain ⟨a0, n0, k0, b0, o0, rfl, h0⟩ := ha
  obtain ⟨a1, n1, k1, b1, o1, rfl, h1⟩ := hb
  have hL : lossFault ma mb = if ma.fault = 0 then (if mb.fault = 0 then (if ma.rows = mb.rows ∧ ma.cols = mb.cols then 0 else 2) else mb.fault) else ma.fault := by
    unfold lossFault
    rw [firstFault_pair]
    by_cases h : ma.fault = 0 <;> by_cases h' : mb.fault = 0 <;> simp [h, h']
  rw [hL]
  clear hL
  by_cases f0 : ma.fault = 0
  · rw [if_pos f0]
    by_cases f1 : mb.fault = 0
    · rw [if_pos f1]
      have F0 := Lib.hid f0
      have F1 := Lib.hid f1
      clear f0 f1
      by_cases hs : ma.rows = mb.rows ∧ ma.cols = mb.cols
      · rw [if_pos hs]
        have e1 : (ma.rows != mb.rows) = false := by simp [hs.1]
        have e2 : (ma.cols != mb.cols) = false := by simp [hs.2]
        clear hs
        go_enter Tryd.func29, Tryd.ntmps29
        go_wp2_with fail
        refine (refMatFault_any ma _ _ (MatAt.mk (h0.alloc _ |>.alloc _))).mono ?_
        rw [F0.out]
        rintro e w1 ⟨rfl, hb1⟩
        have B0 := ((Box.new w _ 25).alloc _).keep hb1
        have B0c := B0.cell
        have B0f := B0.thawed
        have B0z := B0.lt
        have B0k := lt_add B0z
        have B1 := (Box.new' _ (w.heap.size + 1) _ 25 (by simp)).keep hb1
        have B1c := B1.cell
        have B1f := B1.thawed
        have B1z := B1.lt
        have B1k := lt_add B1z
        have hkw1 : Below w.heap.size w w1 := (by repeat (first | fail | (with_reducible exact Below.refl _ _) | (with_reducible refine Below.al ?_ _) | (with_reducible refine Below.drN ?_ _) | (with_reducible refine Below.drew ?_) | (with_reducible refine Below.st ?_ ?_ _; rotate_left 1; (first | (dsimp only; omega) | omega | (simp; omega) | simp)) | (with_reducible refine Below.go ?_ hb1) | exact Below.refl _ _))
        replace h0 := h0.keep hkw1
        replace h1 := h1.keep hkw1
        go_wp2_with fail
        refine (refMatFault_any mb _ _ (MatAt.mk h1)).mono ?_
        rw [F1.out]
        rintro e w2 ⟨rfl, hb2⟩
        have hkw2 : Below w1.heap.size w1 w2 := (by repeat (first | fail | (with_reducible exact Below.refl _ _) | (with_reducible refine Below.al ?_ _) | (with_reducible refine Below.drN ?_ _) | (with_reducible refine Below.drew ?_) | (with_reducible refine Below.st ?_ ?_ _; rotate_left 1; (first | (dsimp only; omega) | omega | (simp; omega) | simp)) | (with_reducible refine Below.go ?_ hb2) | exact Below.refl _ _))
        replace B0 := B0.keep hkw2
        replace B0c := B0.cell
        replace B0f := B0.thawed
        replace B0z := B0.lt
        replace B0k := lt_add B0z
        replace B1 := B1.keep hkw2
        replace B1c := B1.cell
        replace B1f := B1.thawed
        replace B1z := B1.lt
        replace B1k := lt_add B1z
        go_wp2
        go_ret
        exact ⟨rfl, (by repeat (first | fail | (with_reducible exact Below.refl _ _) | (with_reducible refine Below.al ?_ _) | (with_reducible refine Below.drN ?_ _) | (with_reducible refine Below.drew ?_) | (with_reducible refine Below.st ?_ ?_ _; rotate_left 1; (first | (dsimp only; omega) | omega | (simp; omega) | simp)) | (with_reducible refine Below.go ?_ hb2) | (with_reducible refine Below.go ?_ hb1) | exact Below.refl _ _))⟩
      · rw [if_neg hs]
        have hor : (ma.rows != mb.rows) = true ∨ (ma.rows != mb.rows) = false ∧ (ma.cols != mb.cols) = true := by
          by_cases h : ma.rows = mb.rows
          · right; exact ⟨by simp [h], by simp; intro h'; exact hs ⟨h, h'⟩⟩
          · left; simp [h]
        clear hs
        rcases hor with hr | ⟨hr, hc⟩
        all_goals
          go_enter Tryd.func29, Tryd.ntmps29
          go_wp2_with fail
          refine (refMatFault_any ma _ _ (MatAt.mk (h0.alloc _ |>.alloc _))).mono ?_
          rw [F0.out]
          rintro e w1 ⟨rfl, hb1⟩
          have B0 := ((Box.new w _ 25).alloc _).keep hb1
          have B0c := B0.cell
          have B0f := B0.thawed
          have B0z := B0.lt
          have B0k := lt_add B0z
          have B1 := (Box.new' _ (w.heap.size + 1) _ 25 (by simp)).keep hb1
          have B1c := B1.cell
          have B1f := B1.thawed
          have B1z := B1.lt
          have B1k := lt_add B1z
          have hkw1 : Below w.heap.size w w1 := (by repeat (first | fail | (with_reducible exact Below.refl _ _) | (with_reducible refine Below.al ?_ _) | (with_reducible refine Below.drN ?_ _) | (with_reducible refine Below.drew ?_) | (with_reducible refine Below.st ?_ ?_ _; rotate_left 1; (first | (dsimp only; omega) | omega | (simp; omega) | simp)) | (with_reducible refine Below.go ?_ hb1) | exact Below.refl _ _))
          replace h0 := h0.keep hkw1
          replace h1 := h1.keep hkw1
          go_wp2_with fail
          refine (refMatFault_any mb _ _ (MatAt.mk h1)).mono ?_
          rw [F1.out]
          rintro e w2 ⟨rfl, hb2⟩
          have hkw2 : Below w1.heap.size w1 w2 := (by repeat (first | fail | (with_reducible exact Below.refl _ _) | (with_reducible refine Below.al ?_ _) | (with_reducible refine Below.drN ?_ _) | (with_reducible refine Below.drew ?_) | (with_reducible refine Below.st ?_ ?_ _; rotate_left 1; (first | (dsimp only; omega) | omega | (simp; omega) | simp)) | (with_reducible refine Below.go ?_ hb2) | exact Below.refl _ _))
          replace B0 := B0.keep hkw2
          replace B0c := B0.cell
          replace B0f := B0.thawed
          replace B0z := B0.lt
          replace B0k := lt_add B0z
          replace B1 := B1.keep hkw2
          replace B1c := B1.cell
          replace B1f := B1.thawed
          replace B1z := B1.lt
          replace B1k := lt_add B1z
          go_wp2
          go_ret
          exact ⟨rfl, (by repeat (first | fail | (with_reducible exact Below.refl _ _) | (with_reducible refine Below.al ?_ _) | (with_reducible refine Below.drN ?_ _) | (with_reducible refine Below.drew ?_) | (with_reducible refine Below.st ?_ ?_ _; rotate_left 1; (first | (dsimp only; omega) | omega | (simp; omega) | simp)) | (with_reducible refine Below.go ?_ hb2) | (with_reducible refine Below.go ?_ hb1) | exact Below.refl _ _))⟩
    · rw [if_neg f1]
      have F0 := Lib.hid f0
      have q1 : (mb.fault == 0) = false := by simp [f1]
      clear f0 f1
      go_enter Tryd.func29, Tryd.ntmps29
      go_wp2_with fail
      refine (refMatFault_any ma _ _ (MatAt.mk (h0.alloc _ |>.alloc _))).mono ?_
      rw [F0.out]
      rintro e w1 ⟨rfl, hb1⟩
      have B0 := ((Box.new w _ 25).alloc _).keep hb1
      have B0c := B0.cell
      have B0f := B0.thawed
      have B0z := B0.lt
      have B0k := lt_add B0z
      have B1 := (Box.new' _ (w.heap.size + 1) _ 25 (by simp)).keep hb1
      have B1c := B1.cell
      have B1f := B1.thawed
      have B1z := B1.lt
      have B1k := lt_add B1z
      have hkw1 : Below w.heap.size w w1 := (by repeat (first | fail | (with_reducible exact Below.refl _ _) | (with_reducible refine Below.al ?_ _) | (with_reducible refine Below.drN ?_ _) | (with_reducible refine Below.drew ?_) | (with_reducible refine Below.st ?_ ?_ _; rotate_left 1; (first | (dsimp only; omega) | omega | (simp; omega) | simp)) | (with_reducible refine Below.go ?_ hb1) | exact Below.refl _ _))
      replace h0 := h0.keep hkw1
      replace h1 := h1.keep hkw1
      go_wp2_with fail
      refine (refMatFault_any mb _ _ (MatAt.mk h1)).mono ?_
      rintro e w2 ⟨rfl, hb2⟩
      have hkw2 : Below w1.heap.size w1 w2 := (by repeat (first | fail | (with_reducible exact Below.refl _ _) | (with_reducible refine Below.al ?_ _) | (with_reducible refine Below.drN ?_ _) | (with_reducible refine Below.drew ?_) | (with_reducible refine Below.st ?_ ?_ _; rotate_left 1; (first | (dsimp only; omega) | omega | (simp; omega) | simp)) | (with_reducible refine Below.go ?_ hb2) | exact Below.refl _ _))
      replace B0 := B0.keep hkw2
      replace B0c := B0.cell
      replace B0f := B0.thawed
      replace B0z := B0.lt
      replace B0k := lt_add B0z
      replace B1 := B1.keep hkw2
      replace B1c := B1.cell
      replace B1f := B1.thawed
      replace B1z := B1.lt
      replace B1k := lt_add B1z
      go_wp2
      go_ret
      exact ⟨rfl, (by repeat (first | fail | (with_reducible exact Below.refl _ _) | (with_reducible refine Below.al ?_ _) | (with_reducible refine Below.drN ?_ _) | (with_reducible refine Below.drew ?_) | (with_reducible refine Below.st ?_ ?_ _; rotate_left 1; (first | (dsimp only; omega) | omega | (simp; omega) | simp)) | (with_reducible refine Below.go ?_ hb2) | (with_reducible refine Below.go ?_ hb1) | exact Below.refl _ _))⟩
  · rw [if_neg f0]
    have q1 : (ma.fault == 0) = false := by simp [f0]
    clear f0
    go_enter Tryd.func29, Tryd.ntmps29
    go_wp2_with fail
    refine (refMatFault_any ma _ _ (MatAt.mk (h0.alloc _ |>.alloc _))).mono ?_
    rintro e w1 ⟨rfl, hb1⟩
    have B0 := ((Box.new w _ 25).alloc _).keep hb1
    have B0c := B0.cell
    have B0f := B0.thawed
    have B0z := B0.lt
    have B0k := lt_add B0z
    have B1 := (Box.new' _ (w.heap.size + 1) _ 25 (by simp)).keep hb1
    have B1c := B1.cell
    have B1f := B1.thawed
    have B1z := B1.lt
    have B1k := lt_add B1z
    go_wp2
    go_ret
    exact ⟨rfl, (by repeat (first | fail | (with_reducible exact Below.refl _ _) | (with_reducible refine Below.al ?_ _) | (with_reducible refine Below.drN ?_ _) | (with_reducible refine Below.drew ?_) | (with_reducible refine Below.st ?_ ?_ _; rotate_left 1; (first | (dsimp only; omega) | omega | (simp; omega) | simp)) | (with_reducible refine Below.go ?_ hb1) | exact Below.refl _ _))⟩
end Go.Proofs.YtikcdjibflleeaaDoor
end
section
set_option linter.unusedVariables false
set_option linter.unusedSimpArgs false
namespace Go.Proofs.YtikcdjibflleeaaDoor
open Go.RowKit Gal

theorem ints_pad {w : World} {b n : Nat} {g : Nat → Int} {t : TypeId} (h : Box w b ((pad g n n).map (Value.int .i64)) t) (hl : n ≤ maxLen) : IntsAt w (some ⟨b, 0, none⟩) n n b 0 (upto g n) := by
  rw [pad_full] at h
  have := ints_box h (by rw [upto_length]; exact hl)
  rw [upto_length] at this
  exact this

set_option maxRecDepth 100000 in
set_option maxHeartbeats 1000000 in
theorem refMatAdd_any (R K : Nat) (hR : R ≤ 24) (hK : K ≤ 12) (xs ys : List Int) (va vb : Value) (w : World) (ha : MatAt w va ⟨R, K, xs⟩) (hb : MatAt w vb ⟨R, K, ys⟩) (hl0 : xs.length = R * K) (hl1 : ys.length = R * K) :
    Calls Tryd.prog 30 #[va, vb] w fun e w' => ∃ v, e = .returned v ∧ MatNew w.heap.size w' v ⟨R, K, upto (fun k => add (ix xs k) (ix ys k)) (R * K)⟩ ∧ Below w.heap.size w w' := by
  obtain ⟨a0, n0, k0, b0, o0, rfl, h0⟩ := ha
  obtain ⟨a1, n1, k1, b1, o1, rfl, h1⟩ := hb
  dsimp only at h0 h1
  obtain rfl : R * K = n0 := by rw [← hl0]; exact h0.len
  obtain rfl : R * K = n1 := by rw [← hl1]; exact h1.len
  have hrk : R * K ≤ 288 := Nat.mul_le_mul hR hK
  go_enter Tryd.func30, Tryd.ntmps30
  go_wp2_with fail
  refine (blank_any R K (by omega) (by omega) _).mono ?_
  rintro e w1 ⟨b, rfl, hbb, hB, hb1⟩
  go_wp2
  have hw1 : Below w.heap.size w w1 := (by repeat (first | fail | (with_reducible exact Below.refl _ _) | (with_reducible refine Below.al ?_ _) | (with_reducible refine Below.drN ?_ _) | (with_reducible refine Below.drew ?_) | (with_reducible refine Below.st ?_ ?_ _; rotate_left 1; (first | (dsimp only; omega) | omega | (simp; omega) | simp)) | (with_reducible refine Below.go ?_ hb1) | exact Below.refl _ _))
  have hzb : b < w1.heap.size := hB.lt
  have hz1 := hb1.size
  simp at hz1 hbb
  have B0 := (((Box.new w [.int .i64 R, .int .i64 K, .slice a0 (R * K) k0] 25).alloc _).alloc _).keep hb1
  have B0c := B0.cell
  have B0f := B0.thawed
  have B0z := B0.lt
  have B0k := lt_add B0z
  have B1 := ((Box.new' _ (w.heap.size + 1) [.int .i64 R, .int .i64 K, .slice a1 (R * K) k1] 25 (by simp)).alloc _).keep hb1
  have B1c := B1.cell
  have B1f := B1.thawed
  have B1z := B1.lt
  have B1k := lt_add B1z
  have B2 := (Box.new' _ (w.heap.size + 1 + 1) [.int .i64 0, .int .i64 0, .slice none 0 0] 25 (by simp)).keep hb1
  have B2c := B2.cell
  have B2f := B2.thawed
  have B2z := B2.lt
  have B2k := lt_add B2z
  have l0 := h0.lt
  have l1 := h1.lt
  replace h0 := h0.keep hw1
  replace h1 := h1.keep hw1
  go_loopw [6] (fun i wr => ∃ k : Nat, k ≤ R * K ∧ i = .int .i64 k ∧ Far (· = b) w1 wr ∧ Box wr w1.heap.size [.int .i64 R, .int .i64 K, .slice (some ⟨b, 0, none⟩) (R * K) (R * K)] 25 ∧
      Box wr b ((pad (fun k => add (ix xs k) (ix ys k)) (R * K) k).map (Value.int .i64)) 3) (fun i _ => R * K - (intOf i).toNat)
  case atStart => exact ⟨0, Nat.zero_le _, rfl, (Far.refl _ _).al _, Box.new _ _ _, by rw [pad_zero]; exact hB.alloc _⟩
  case round =>
    obtain ⟨k, hk, rfl, hfr, Bm, Bc⟩ := hrel
    have Bmc := Bm.cell
    have Bmf := Bm.thawed
    have Bmz := Bm.lt
    replace B0 := B0.farS hfr (by omega)
    have B0c := B0.cell
    have B0f := B0.thawed
    have B0z := B0.lt
    have B0k := lt_add B0z
    replace B1 := B1.farS hfr (by omega)
    have B1c := B1.cell
    have B1f := B1.thawed
    have B1z := B1.lt
    have B1k := lt_add B1z
    replace B2 := B2.farS hfr (by omega)
    have B2c := B2.cell
    have B2f := B2.thawed
    have B2z := B2.lt
    have B2k := lt_add B2z
    replace h0 := h0.farS hfr (by intro hn e; have := l0 hn; omega)
    replace h1 := h1.farS hfr (by intro hn e; have := l1 hn; omega)
    by_cases hlt : k < R * K
    · obtain rfl := h0.ptr (by omega)
      obtain rfl := h1.ptr (by omega)
      have c0 := h0.cell k hlt
      have c1 := h1.cell k hlt
      have cc := Bc.icell (k := k) (by rw [pad_length]; exact hlt)
      rw [pad_ix hlt, if_neg (Nat.lt_irrefl _)] at cc
      have hltI : (k : Int) < (R : Int) * K := by rw [← Int.natCast_mul]; omega
      have cf := Bc.thawed k
      go_wp2_with fail
      refine wp_region_still_tail 14 (by kernel_rfl) (by kernel_rfl) ?_
      simp only [List.take_succ_cons, List.take_zero, List.drop_succ_cons, List.drop_zero]
      repeat (first | still_call (still0 (radd_any _ _ _)) | still_step)
      refine wpStill_nil ?_
      go_wp2
      go_roundw
      case rel =>
        refine ⟨k + 1, by omega, by go_num, (hfr.drew).st (fun _ => rfl) _, Bm.far (a := ⟨b, k, none⟩) (by dsimp only; omega) _, ?_⟩
        have hs := Bc.iset k (add (ix xs k) (ix ys k))
        rw [pad_set (g := fun k => add (ix xs k) (ix ys k)) hlt] at hs
        exact hs
      case measure => simp [intOf]; omega
    · skip
      obtain rfl : k = R * K := by omega
      have hbl := Far.toBelow hw1 hfr (by omega) (by rintro k rfl; omega)
      go_wp2
      refine bodyPost_ret (v := .agg #[.int .i64 R, .int .i64 K, .slice (some ⟨b, 0, none⟩) (R * K) (R * K)]) (by simp [results, Tryd.results30, go_sem, B2c]) rfl ⟨_, rfl, MatNew.mk (fun _ => by omega) ((ints_pad Bc (by unfold maxLen; omega)).set3 (fun _ => by omega) _ _ _), (by repeat (first | fail | (with_reducible exact Below.refl _ _) | (with_reducible exact hbl) | (with_reducible refine Below.al ?_ _) | (with_reducible refine Below.drN ?_ _) | (with_reducible refine Below.drew ?_) | (with_reducible refine Below.st ?_ ?_ _; rotate_left 1; (first | (dsimp only; omega) | omega | (simp; omega) | simp)) | exact Below.refl _ _ | exact hbl))⟩
set_option maxRecDepth 100000 in
set_option maxHeartbeats 1000000 in
theorem refMatTimes_any (R K : Nat) (hR : R ≤ 24) (hK : K ≤ 12) (xs : List Int) (x : Int) (va : Value) (w : World) (ha : MatAt w va ⟨R, K, xs⟩) (hl0 : xs.length = R * K) :
    Calls Tryd.prog 54 #[va, .int .i64 x] w fun e w' => ∃ v, e = .returned v ∧ MatNew w.heap.size w' v ⟨R, K, upto (fun k => mul (ix xs k) x) (R * K)⟩ ∧ Below w.heap.size w w' := by
  obtain ⟨a0, n0, k0, b0, o0, rfl, h0⟩ := ha
  dsimp only at h0
  obtain rfl : R * K = n0 := by rw [← hl0]; exact h0.len
  have hrk : R * K ≤ 288 := Nat.mul_le_mul hR hK
  go_enter Tryd.func54, Tryd.ntmps54
  go_wp2_with fail
  refine (blank_any R K (by omega) (by omega) _).mono ?_
  rintro e w1 ⟨b, rfl, hbb, hB, hb1⟩
  go_wp2
  have hw1 : Below w.heap.size w w1 := (by repeat (first | fail | (with_reducible exact Below.refl _ _) | (with_reducible refine Below.al ?_ _) | (with_reducible refine Below.drN ?_ _) | (with_reducible refine Below.drew ?_) | (with_reducible refine Below.st ?_ ?_ _; rotate_left 1; (first | (dsimp only; omega) | omega | (simp; omega) | simp)) | (with_reducible refine Below.go ?_ hb1) | exact Below.refl _ _))
  have hzb : b < w1.heap.size := hB.lt
  have hz1 := hb1.size
  simp at hz1 hbb
  have B0 := ((Box.new w [.int .i64 R, .int .i64 K, .slice a0 (R * K) k0] 25).alloc _).keep hb1
  have B0c := B0.cell
  have B0f := B0.thawed
  have B0z := B0.lt
  have B0k := lt_add B0z
  have B2 := (Box.new' _ (w.heap.size + 1) [.int .i64 0, .int .i64 0, .slice none 0 0] 25 (by simp)).keep hb1
  have B2c := B2.cell
  have B2f := B2.thawed
  have B2z := B2.lt
  have B2k := lt_add B2z
  have l0 := h0.lt
  replace h0 := h0.keep hw1
  go_loopw [6] (fun i wr => ∃ k : Nat, k ≤ R * K ∧ i = .int .i64 k ∧ Far (· = b) w1 wr ∧ Box wr w1.heap.size [.int .i64 R, .int .i64 K, .slice (some ⟨b, 0, none⟩) (R * K) (R * K)] 25 ∧
      Box wr b ((pad (fun k => mul (ix xs k) x) (R * K) k).map (Value.int .i64)) 3) (fun i _ => R * K - (intOf i).toNat)
  case atStart => exact ⟨0, Nat.zero_le _, rfl, (Far.refl _ _).al _, Box.new _ _ _, by rw [pad_zero]; exact hB.alloc _⟩
  case round =>
    obtain ⟨k, hk, rfl, hfr, Bm, Bc⟩ := hrel
    have Bmc := Bm.cell
    have Bmf := Bm.thawed
    have Bmz := Bm.lt
    replace B0 := B0.farS hfr (by omega)
    have B0c := B0.cell
    have B0f := B0.thawed
    have B0z := B0.lt
    have B0k := lt_add B0z
    replace B2 := B2.farS hfr (by omega)
    have B2c := B2.cell
    have B2f := B2.thawed
    have B2z := B2.lt
    have B2k := lt_add B2z
    replace h0 := h0.farS hfr (by intro hn e; have := l0 hn; omega)
    by_cases hlt : k < R * K
    · obtain rfl := h0.ptr (by omega)
      have c0 := h0.cell k hlt
      have cc := Bc.icell (k := k) (by rw [pad_length]; exact hlt)
      rw [pad_ix hlt, if_neg (Nat.lt_irrefl _)] at cc
      have hltI : (k : Int) < (R : Int) * K := by rw [← Int.natCast_mul]; omega
      have cf := Bc.thawed k
      go_wp2_with fail
      refine wp_region_still_tail 10 (by kernel_rfl) (by kernel_rfl) ?_
      simp only [List.take_succ_cons, List.take_zero, List.drop_succ_cons, List.drop_zero]
      repeat (first | still_call (still0 (rmul_any _ _ _)) | still_step)
      refine wpStill_nil ?_
      go_wp2
      go_roundw
      case rel =>
        refine ⟨k + 1, by omega, by go_num, (hfr.drew).st (fun _ => rfl) _, Bm.far (a := ⟨b, k, none⟩) (by dsimp only; omega) _, ?_⟩
        have hs := Bc.iset k (mul (ix xs k) x)
        rw [pad_set (g := fun k => mul (ix xs k) x) hlt] at hs
        exact hs
      case measure => simp [intOf]; omega
    · skip
      obtain rfl : k = R * K := by omega
      have hbl := Far.toBelow hw1 hfr (by omega) (by rintro k rfl; omega)
      go_wp2
      refine bodyPost_ret (v := .agg #[.int .i64 R, .int .i64 K, .slice (some ⟨b, 0, none⟩) (R * K) (R * K)]) (by simp [results, Tryd.results54, go_sem, B2c]) rfl ⟨_, rfl, MatNew.mk (fun _ => by omega) ((ints_pad Bc (by unfold maxLen; omega)).set3 (fun _ => by omega) _ _ _), (by repeat (first | fail | (with_reducible exact Below.refl _ _) | (with_reducible exact hbl) | (with_reducible refine Below.al ?_ _) | (with_reducible refine Below.drN ?_ _) | (with_reducible refine Below.drew ?_) | (with_reducible refine Below.st ?_ ?_ _; rotate_left 1; (first | (dsimp only; omega) | omega | (simp; omega) | simp)) | exact Below.refl _ _ | exact hbl))⟩
end Go.Proofs.YtikcdjibflleeaaDoor
end
section
set_option linter.unusedVariables false
set_option linter.unusedSimpArgs false
namespace Go.Proofs.YtikcdjibflleeaaDoor
open Go.RowKit Gal

theorem ints_upto {w : World} {b n : Nat} {g : Nat → Int} {t : TypeId} (h : Box w b ((upto g n).map (Value.int .i64)) t) (hl : n ≤ maxLen) : IntsAt w (some ⟨b, 0, none⟩) n n b 0 (upto g n) := by
  have := ints_box h (by rw [upto_length]; exact hl)
  rw [upto_length] at this
  exact this

set_option maxRecDepth 100000 in
set_option maxHeartbeats 1000000 in
theorem refMatTurn_any (R K : Nat) (hR : R ≤ 24) (hK : K ≤ 12) (xs : List Int) (va : Value) (w : World) (ha : MatAt w va ⟨R, K, xs⟩) (hl0 : xs.length = R * K) :
    Calls Tryd.prog 63 #[va] w fun e w' => ∃ v, e = .returned v ∧ MatNew w.heap.size w' v (matTurn ⟨R, K, xs⟩) ∧ Below w.heap.size w w' := by
  obtain ⟨a0, n0, k0, b0, o0, rfl, h0⟩ := ha
  dsimp only at h0
  obtain rfl : R * K = n0 := by rw [← hl0]; exact h0.len
  have hrk : R * K ≤ 288 := Nat.mul_le_mul hR hK
  have hkr : K * R ≤ 288 := by rw [Nat.mul_comm]; exact hrk
  go_enter Tryd.func63, Tryd.ntmps63
  go_wp2_with fail
  refine (blank_any K R (by omega) (by omega) _).mono ?_
  rintro e w1 ⟨b, rfl, hbb, hB, hb1⟩
  go_wp2
  have hw1 : Below w.heap.size w w1 := (by repeat (first | fail | (with_reducible exact Below.refl _ _) | (with_reducible refine Below.al ?_ _) | (with_reducible refine Below.drN ?_ _) | (with_reducible refine Below.drew ?_) | (with_reducible refine Below.st ?_ ?_ _; rotate_left 1; (first | (dsimp only; omega) | omega | (simp; omega) | simp)) | (with_reducible refine Below.go ?_ hb1) | exact Below.refl _ _))
  have hzb : b < w1.heap.size := hB.lt
  have hz1 := hb1.size
  simp at hz1 hbb
  have B0 := ((Box.new w [.int .i64 R, .int .i64 K, .slice a0 (R * K) k0] 25).alloc _).keep hb1
  have B0c := B0.cell
  have B0f := B0.thawed
  have B0z := B0.lt
  have B0k := lt_add B0z
  have B2 := (Box.new' _ (w.heap.size + 1) [.int .i64 0, .int .i64 0, .slice none 0 0] 25 (by simp)).keep hb1
  have B2c := B2.cell
  have B2f := B2.thawed
  have B2z := B2.lt
  have B2k := lt_add B2z
  have l0 := h0.lt
  replace h0 := h0.keep hw1
  go_loopw [4] (fun i wr => ∃ k : Nat, k ≤ R ∧ i = .int .i64 k ∧ Far (· = b) w1 wr ∧ Box wr w1.heap.size [.int .i64 K, .int .i64 R, .slice (some ⟨b, 0, none⟩) (K * R) (K * R)] 25 ∧
      Box wr b ((upto (turnS xs R K k 0) (K * R)).map (Value.int .i64)) 3) (fun i _ => R - (intOf i).toNat)
  case atStart => exact ⟨0, Nat.zero_le _, rfl, (Far.refl _ _).al _, Box.new _ _ _, by rw [turnS_zero]; exact hB.alloc _⟩
  case round =>
    obtain ⟨k, hk, rfl, hfr, Bm, Bc⟩ := hrel
    have Bmc := Bm.cell
    have Bmf := Bm.thawed
    have Bmz := Bm.lt
    have B0' := B0.farS hfr (by omega)
    have B0c' := B0'.cell
    by_cases hlt : k < R
    · go_wp2
      obtain ⟨wo, hwo⟩ : ∃ wo : World, wo = wr := ⟨_, rfl⟩
      clear Bmc Bmf Bmz B0' B0c'
      go_loopw [5] (fun j wr => ∃ l : Nat, l ≤ K ∧ j = .int .i64 l ∧ Far (· = b) w1 wr ∧ Box wr w1.heap.size [.int .i64 K, .int .i64 R, .slice (some ⟨b, 0, none⟩) (K * R) (K * R)] 25 ∧
          Box wr b ((upto (turnS xs R K k l) (K * R)).map (Value.int .i64)) 3) (fun j _ => K - (intOf j).toNat)
      case atStart => exact ⟨0, Nat.zero_le _, rfl, hfr, Bm, Bc⟩
      case round =>
        obtain ⟨l, hl, rfl, hfr, Bm, Bc⟩ := hrel
        have Bmc := Bm.cell
        have Bmf := Bm.thawed
        have Bmz := Bm.lt
        replace B0 := B0.farS hfr (by omega)
        have B0c := B0.cell
        have B0f := B0.thawed
        have B0z := B0.lt
        have B0k := lt_add B0z
        replace B2 := B2.farS hfr (by omega)
        have B2c := B2.cell
        have B2f := B2.thawed
        have B2z := B2.lt
        have B2k := lt_add B2z
        replace h0 := h0.farS hfr (by intro hn e; have := l0 hn; omega)
        by_cases hlt2 : l < K
        · have hkl := cell_lt hlt hlt2
          have hlk := cell_lt hlt2 hlt
          obtain rfl := h0.ptr (by omega)
          have c0 := h0.cell _ hkl
          have cc := Bc.icell (k := l * R + k) (by rw [upto_length]; exact hlk)
          have cf := Bc.thawed (l * R + k)
          have e1 : (k : Int) * K ≤ 288 := by rw [← Int.natCast_mul]; have := Nat.mul_le_mul (show k ≤ 24 by omega) hK; omega
          have e2 : (0 : Int) ≤ (k : Int) * K := by rw [← Int.natCast_mul]; omega
          have e3 : (l : Int) * R ≤ 288 := by rw [← Int.natCast_mul]; have := Nat.mul_le_mul (show l ≤ 12 by omega) hR; omega
          have e4 : (0 : Int) ≤ (l : Int) * R := by rw [← Int.natCast_mul]; omega
          have y1 : IntKind.i64.wrap ((k : Int) * K) = (k : Int) * K := IntWalk.i64_in _ (by omega)
          have y2 : IntKind.i64.wrap ((k : Int) * K + l) = (k : Int) * K + l := IntWalk.i64_in _ (by omega)
          have y3 : IntKind.i64.wrap ((l : Int) * R) = (l : Int) * R := IntWalk.i64_in _ (by omega)
          have y4 : IntKind.i64.wrap ((l : Int) * R + k) = (l : Int) * R + k := IntWalk.i64_in _ (by omega)
          have z1 : (k : Int) * K + l < (R : Int) * K := by rw [← Int.natCast_mul, ← Int.natCast_mul]; omega
          have z2 : 0 ≤ (k : Int) * K + l := by omega
          have z3 : ((k : Int) * K + l).toNat = k * K + l := by rw [← Int.natCast_mul]; omega
          have z4 : (l : Int) * R + k < (K : Int) * R := by rw [← Int.natCast_mul, ← Int.natCast_mul]; omega
          have z5 : 0 ≤ (l : Int) * R + k := by omega
          have z6 : ((l : Int) * R + k).toNat = l * R + k := by rw [← Int.natCast_mul]; omega
          go_wp2_with fail
          refine wp_region_still_tail 18 (by kernel_rfl) (by kernel_rfl) ?_
          simp only [List.take_succ_cons, List.take_zero, List.drop_succ_cons, List.drop_zero]
          repeat (first | fail | still_step)
          refine wpStill_nil ?_
          go_wp2
          go_roundw
          case rel =>
            refine ⟨l + 1, by omega, by go_num, (hfr.drew).st (fun _ => rfl) _, Bm.far (a := ⟨b, l * R + k, none⟩) (by dsimp only; omega) _, ?_⟩
            have hs := Bc.iset (l * R + k) (ix xs (k * K + l))
            rw [turnS_cell hlt hlt2] at hs
            exact hs
          case measure => simp [intOf]; omega
        · obtain rfl : l = K := by omega
          go_wp2
          go_roundw
          case rel => exact ⟨k + 1, by omega, by go_num, hfr, Bm, by rw [← turnS_row (by omega)]; exact Bc⟩
          case measure => simp [intOf]; omega
    · obtain rfl : k = R := by omega
      replace B2 := B2.farS hfr (by omega)
      have B2c := B2.cell
      have B2f := B2.thawed
      have B2z := B2.lt
      have B2k := lt_add B2z
      have hbl := Far.toBelow hw1 hfr (by omega) (by rintro k rfl; omega)
      go_wp2
      refine bodyPost_ret (v := .agg #[.int .i64 K, .int .i64 k, .slice (some ⟨b, 0, none⟩) (K * k) (K * k)]) (by simp [results, Tryd.results63, go_sem, B2c]) rfl ⟨_, rfl, ?_, (by repeat (first | fail | (with_reducible exact Below.refl _ _) | (with_reducible exact hbl) | (with_reducible refine Below.al ?_ _) | (with_reducible refine Below.drN ?_ _) | (with_reducible refine Below.drew ?_) | (with_reducible refine Below.st ?_ ?_ _; rotate_left 1; (first | (dsimp only; omega) | omega | (simp; omega) | simp)) | exact Below.refl _ _ | exact hbl))⟩
      rw [← turnS_all]
      exact MatNew.mk (fun _ => by omega) ((ints_upto Bc (by unfold maxLen; omega)).set3 (fun _ => by omega) _ _ _)
set_option maxRecDepth 100000 in
set_option maxHeartbeats 1000000 in
theorem refMatSums_any (R K : Nat) (hR : R ≤ 24) (hK : K ≤ 12) (xs : List Int) (va : Value) (w : World) (ha : MatAt w va ⟨R, K, xs⟩) (hl0 : xs.length = R * K) :
    Calls Tryd.prog 65 #[va] w fun e w' => ∃ v, e = .returned v ∧ MatNew w.heap.size w' v (matSums ⟨R, K, xs⟩) ∧ Below w.heap.size w w' := by
  obtain ⟨a0, n0, k0, b0, o0, rfl, h0⟩ := ha
  dsimp only at h0
  obtain rfl : R * K = n0 := by rw [← hl0]; exact h0.len
  have hrk : R * K ≤ 288 := Nat.mul_le_mul hR hK
  go_enter Tryd.func65, Tryd.ntmps65
  go_wp2_with fail
  refine (blank_any 1 K (by omega) (by omega) _).mono ?_
  rintro e w1 ⟨b, rfl, hbb, hB, hb1⟩
  go_wp2
  have hw1 : Below w.heap.size w w1 := (by repeat (first | fail | (with_reducible exact Below.refl _ _) | (with_reducible refine Below.al ?_ _) | (with_reducible refine Below.drN ?_ _) | (with_reducible refine Below.drew ?_) | (with_reducible refine Below.st ?_ ?_ _; rotate_left 1; (first | (dsimp only; omega) | omega | (simp; omega) | simp)) | (with_reducible refine Below.go ?_ hb1) | exact Below.refl _ _))
  have hzb : b < w1.heap.size := hB.lt
  have hz1 := hb1.size
  simp at hz1 hbb
  have B0 := ((Box.new w [.int .i64 R, .int .i64 K, .slice a0 (R * K) k0] 25).alloc _).keep hb1
  have B0c := B0.cell
  have B0f := B0.thawed
  have B0z := B0.lt
  have B0k := lt_add B0z
  have B2 := (Box.new' _ (w.heap.size + 1) [.int .i64 0, .int .i64 0, .slice none 0 0] 25 (by simp)).keep hb1
  have B2c := B2.cell
  have B2f := B2.thawed
  have B2z := B2.lt
  have B2k := lt_add B2z
  have l0 := h0.lt
  replace h0 := h0.keep hw1
  rw [Nat.one_mul] at hB
  go_loopw [4, 5] (fun i _ wr => ∃ q c : Nat, q * K + c ≤ R * K ∧ (c < K ∨ c = 0) ∧ i = .int .i64 (q * K + c : Nat) ∧ Far (· = b) w1 wr ∧ Box wr w1.heap.size [.int .i64 1, .int .i64 K, .slice (some ⟨b, 0, none⟩) K K] 25 ∧
      Box wr b ((upto (sumS xs K q c) K).map (Value.int .i64)) 3) (fun i _ _ => R * K - (intOf i).toNat)
  case atStart => exact ⟨0, 0, by omega, Or.inr rfl, by simp, (Far.refl _ _).al _, Box.new _ _ _, by rw [sumS_zero]; exact hB.alloc _⟩
  case round =>
    obtain ⟨q, c, hk, hcK, rfl, hfr, Bm, Bc⟩ := hrel
    have Bmc := Bm.cell
    have Bmf := Bm.thawed
    have Bmz := Bm.lt
    replace B0 := B0.farS hfr (by omega)
    have B0c := B0.cell
    have B0f := B0.thawed
    have B0z := B0.lt
    have B0k := lt_add B0z
    replace B2 := B2.farS hfr (by omega)
    have B2c := B2.cell
    have B2f := B2.thawed
    have B2z := B2.lt
    have B2k := lt_add B2z
    replace h0 := h0.farS hfr (by intro hn e; have := l0 hn; omega)
    by_cases hlt : q * K + c < R * K
    · have hK0 : 0 < K := by
        rcases Nat.eq_zero_or_pos K with h | h
        · rw [h, Nat.mul_zero] at hlt; omega
        · exact h
      have hc : c < K := by omega
      have hqR : q < R := by
        rcases Nat.lt_or_ge q R with h | h
        · exact h
        · have := Nat.mul_le_mul_right K h; omega
      have hmod := place_mod (i := q) hc
      obtain ⟨k, hkk⟩ : ∃ k, q * K + c = k := ⟨_, rfl⟩
      have HKK := Lib.hid hkk
      rw [hkk] at hlt hmod ⊢
      clear hkk
      obtain rfl := h0.ptr (by omega)
      have c0 := h0.cell k hlt
      have cc := Bc.icell (k := c) (by rw [upto_length]; exact hc)
      rw [upto_ix hc, sumS_at] at cc
      have cf := Bc.thawed c
      have hltI : (k : Int) < (R : Int) * K := by rw [← Int.natCast_mul]; omega
      have hmI : (k : Int) % (K : Int) = (c : Int) := by rw [← Int.natCast_emod, hmod]
      have hmT : (k : Int).tmod (K : Int) = (c : Int) := by rw [Int.tmod_eq_emod_of_nonneg (by omega)]; exact hmI
      have hcI : (c : Int) < (K : Int) := by omega
      have hKz : ((K : Int) == 0) = false := by simp; omega
      have HM := Lib.hid hmod
      clear hmod
      go_wp2_with fail
      refine wp_region_still_tail 14 (by kernel_rfl) (by kernel_rfl) ?_
      simp only [List.take_succ_cons, List.take_zero, List.drop_succ_cons, List.drop_zero]
      repeat (first | still_call (still0 (radd_any _ _ _)) | still_step)
      refine wpStill_nil ?_
      go_wp2
      go_roundw
      case rel =>
        have hs := Bc.iset c (add (sumTo (fun i => ix xs (i * K + c)) q) (ix xs k))
        rw [← HKK.out, sumS_cell hc] at hs
        by_cases hcc : c + 1 < K
        · exact ⟨q, c + 1, by have := HKK.out; omega, Or.inl hcc, by rw [← HKK.out]; go_num, (hfr.drew).st (fun _ => rfl) _, Bm.far (a := ⟨b, c, none⟩) (by dsimp only; omega) _, by rw [← HKK.out]; exact hs⟩
        · obtain rfl : c + 1 = K := by omega
          refine ⟨q + 1, 0, by have := HKK.out; rw [Nat.succ_mul]; omega, Or.inr rfl, ?_, (hfr.drew).st (fun _ => rfl) _, Bm.far (a := ⟨b, c, none⟩) (by dsimp only; omega) _, ?_⟩
          · rw [← HKK.out, Nat.succ_mul]; go_num
          · rw [← sumS_next, ← HKK.out]; exact hs
      case measure => simp [intOf]; omega
    · have hbl := Far.toBelow hw1 hfr (by omega) (by rintro k rfl; omega)
      have hend : upto (sumS xs K q c) K = upto (sumS xs K R 0) K := by
        rcases Nat.eq_zero_or_pos K with h | h
        · subst h; rfl
        · have hq : q = R ∧ c = 0 := by
            have e : q * K + c = R * K := by omega
            have h1 := place_div (i := q) (j := c) (C := K) (by omega)
            have h2 := place_mod (i := q) (j := c) (C := K) (by omega)
            rw [e] at h1 h2
            rw [Nat.mul_mod_left] at h2
            rw [Nat.mul_div_cancel _ h] at h1
            exact ⟨h1.symm, h2.symm⟩
          rw [hq.1, hq.2]
      have HE := Lib.hid hend
      clear hend
      have hgeI : ¬ ((q * K + c : Nat) : Int) < (R : Int) * K := by rw [← Int.natCast_mul]; omega
      go_wp2
      refine bodyPost_ret (v := .agg #[.int .i64 1, .int .i64 K, .slice (some ⟨b, 0, none⟩) K K]) (by simp [results, Tryd.results65, go_sem, B2c]) rfl ⟨_, rfl, ?_, (by repeat (first | fail | (with_reducible exact Below.refl _ _) | (with_reducible exact hbl) | (with_reducible refine Below.al ?_ _) | (with_reducible refine Below.drN ?_ _) | (with_reducible refine Below.drew ?_) | (with_reducible refine Below.st ?_ ?_ _; rotate_left 1; (first | (dsimp only; omega) | omega | (simp; omega) | simp)) | exact Below.refl _ _ | exact hbl))⟩
      rw [← sumS_all, Nat.one_mul]
      rw [HE.out] at Bc
      exact MatNew.mk (fun _ => by omega) ((ints_upto Bc (by unfold maxLen; omega)).set3 (fun _ => by omega) _ _ _)
end Go.Proofs.YtikcdjibflleeaaDoor
end
section
set_option linter.unusedVariables false
set_option linter.unusedSimpArgs false
namespace Go.Proofs.YtikcdjibflleeaaDoor
open Go.RowKit Gal

set_option maxRecDepth 100000 in
set_option maxHeartbeats 2000000 in
theorem refMatMul_any (R K C : Nat) (hR : R ≤ 24) (hK : K ≤ 24) (hC : C ≤ 12) (xs ys : List Int) (va vb : Value) (w : World) (ha : MatAt w va ⟨R, K, xs⟩) (hb : MatAt w vb ⟨K, C, ys⟩) (hl0 : xs.length = R * K) (hl1 : ys.length = K * C) (hRK : R * K ≤ 288) (hKC : K * C ≤ 288) :
    Calls Tryd.prog 64 #[va, vb] w fun e w' => ∃ v, e = .returned v ∧ MatNew w.heap.size w' v (matMul ⟨R, K, xs⟩ ⟨K, C, ys⟩) ∧ Below w.heap.size w w' := by
  obtain ⟨a0, n0, k0, b0, o0, rfl, h0⟩ := ha
  obtain ⟨a1, n1, k1, b1, o1, rfl, h1⟩ := hb
  dsimp only at h0 h1
  obtain rfl : R * K = n0 := by rw [← hl0]; exact h0.len
  obtain rfl : K * C = n1 := by rw [← hl1]; exact h1.len
  have hRC : R * C ≤ 288 := Nat.mul_le_mul hR hC
  go_enter Tryd.func64, Tryd.ntmps64
  go_wp2_with fail
  refine (blank_any R C hR (by omega) _).mono ?_
  rintro e w1 ⟨b, rfl, hbb, hB, hb1⟩
  go_wp2
  have hw1 : Below w.heap.size w w1 := (by repeat (first | fail | (with_reducible exact Below.refl _ _) | (with_reducible refine Below.al ?_ _) | (with_reducible refine Below.drN ?_ _) | (with_reducible refine Below.drew ?_) | (with_reducible refine Below.st ?_ ?_ _; rotate_left 1; (first | (dsimp only; omega) | omega | (simp; omega) | simp)) | (with_reducible refine Below.go ?_ hb1) | exact Below.refl _ _))
  have hzb : b < w1.heap.size := hB.lt
  have hz1 := hb1.size
  simp at hz1 hbb
  have B0 := (((Box.new w [.int .i64 R, .int .i64 K, .slice a0 (R * K) k0] 25).alloc _).alloc _).keep hb1
  have B0c := B0.cell
  have B0f := B0.thawed
  have B0z := B0.lt
  have B0k := lt_add B0z
  have B1 := ((Box.new' _ (w.heap.size + 1) [.int .i64 K, .int .i64 C, .slice a1 (K * C) k1] 25 (by simp)).alloc _).keep hb1
  have B1c := B1.cell
  have B1f := B1.thawed
  have B1z := B1.lt
  have B1k := lt_add B1z
  have B2 := (Box.new' _ (w.heap.size + 1 + 1) [.int .i64 0, .int .i64 0, .slice none 0 0] 25 (by simp)).keep hb1
  have B2c := B2.cell
  have B2f := B2.thawed
  have B2z := B2.lt
  have B2k := lt_add B2z
  have l0 := h0.lt
  have l1 := h1.lt
  replace h0 := h0.keep hw1
  replace h1 := h1.keep hw1
  go_loopw [6] (fun i wr => ∃ k : Nat, k ≤ K ∧ i = .int .i64 k ∧ Far (· = b) w1 wr ∧ Box wr w1.heap.size [.int .i64 R, .int .i64 C, .slice (some ⟨b, 0, none⟩) (R * C) (R * C)] 25 ∧
      Box wr b ((upto (mulS xs ys K C k (0 * C + 0)) (R * C)).map (Value.int .i64)) 3) (fun i _ => K - (intOf i).toNat)
  case atStart => exact ⟨0, Nat.zero_le _, rfl, (Far.refl _ _).al _, Box.new _ _ _, by rw [show 0 * C + 0 = 0 by omega, mulS_zero]; exact hB.alloc _⟩
  case round =>
    obtain ⟨k, hk, rfl, hfr, Bm, Bc⟩ := hrel
    have Bmc := Bm.cell
    have Bmf := Bm.thawed
    have Bmz := Bm.lt
    have B0' := B0.farS hfr (by omega)
    have B0c' := B0'.cell
    by_cases hlt : k < K
    · go_wp2
      obtain ⟨wo, hwo⟩ : ∃ wo : World, wo = wr := ⟨_, rfl⟩
      clear Bmc Bmf Bmz B0' B0c'
      go_loopw [7] (fun i wr => ∃ r : Nat, r ≤ R ∧ i = .int .i64 r ∧ Far (· = b) w1 wr ∧ Box wr w1.heap.size [.int .i64 R, .int .i64 C, .slice (some ⟨b, 0, none⟩) (R * C) (R * C)] 25 ∧
          Box wr b ((upto (mulS xs ys K C k (r * C + 0)) (R * C)).map (Value.int .i64)) 3) (fun i _ => R - (intOf i).toNat)
      case atStart => exact ⟨0, Nat.zero_le _, rfl, hfr, Bm, Bc⟩
      case round =>
        obtain ⟨r, hr, rfl, hfr, Bm, Bc⟩ := hrel
        have Bmc := Bm.cell
        have Bmf := Bm.thawed
        have Bmz := Bm.lt
        have B0' := B0.farS hfr (by omega)
        have B0c' := B0'.cell
        by_cases hltr : r < R
        · go_wp2
          obtain ⟨wo2, hwo2⟩ : ∃ wo : World, wo = wr := ⟨_, rfl⟩
          clear Bmc Bmf Bmz B0' B0c'
          go_loopw [8, 9] (fun j _ wr => ∃ l : Nat, l ≤ C ∧ j = .int .i64 l ∧ Far (· = b) w1 wr ∧ Box wr w1.heap.size [.int .i64 R, .int .i64 C, .slice (some ⟨b, 0, none⟩) (R * C) (R * C)] 25 ∧
              Box wr b ((upto (mulS xs ys K C k (r * C + l)) (R * C)).map (Value.int .i64)) 3) (fun j _ _ => C - (intOf j).toNat)
          case atStart => exact ⟨0, Nat.zero_le _, rfl, hfr, Bm, Bc⟩
          case round =>
            obtain ⟨l, hl, rfl, hfr, Bm, Bc⟩ := hrel
            have Bmc := Bm.cell
            have Bmf := Bm.thawed
            have Bmz := Bm.lt
            replace B0 := B0.farS hfr (by omega)
            have B0c := B0.cell
            have B0f := B0.thawed
            have B0z := B0.lt
            have B0k := lt_add B0z
            replace B1 := B1.farS hfr (by omega)
            have B1c := B1.cell
            have B1f := B1.thawed
            have B1z := B1.lt
            have B1k := lt_add B1z
            replace B2 := B2.farS hfr (by omega)
            have B2c := B2.cell
            have B2f := B2.thawed
            have B2z := B2.lt
            have B2k := lt_add B2z
            replace h0 := h0.farS hfr (by intro hn e; have := l0 hn; omega)
            replace h1 := h1.farS hfr (by intro hn e; have := l1 hn; omega)
            by_cases hltl : l < C
            · have hrk := cell_lt hltr hlt
              have hkl := cell_lt hlt hltl
              have hrl := cell_lt hltr hltl
              obtain rfl := h0.ptr (by omega)
              obtain rfl := h1.ptr (by omega)
              have c0 := h0.cell _ hrk
              have c1 := h1.cell _ hkl
              have cc := Bc.icell (k := r * C + l) (by rw [upto_length]; exact hrl)
              rw [upto_ix hrl, mulS_at hltl] at cc
              have cf := Bc.thawed (r * C + l)
              have e1 : (r : Int) * K ≤ 288 := by rw [← Int.natCast_mul]; omega
              have e2 : (0 : Int) ≤ (r : Int) * K := by rw [← Int.natCast_mul]; omega
              have e3 : (k : Int) * C ≤ 288 := by rw [← Int.natCast_mul]; omega
              have e4 : (0 : Int) ≤ (k : Int) * C := by rw [← Int.natCast_mul]; omega
              have e5 : (r : Int) * C ≤ 288 := by rw [← Int.natCast_mul]; omega
              have e6 : (0 : Int) ≤ (r : Int) * C := by rw [← Int.natCast_mul]; omega
              have y1 : IntKind.i64.wrap ((r : Int) * K) = (r : Int) * K := IntWalk.i64_in _ (by omega)
              have y2 : IntKind.i64.wrap ((r : Int) * K + k) = (r : Int) * K + k := IntWalk.i64_in _ (by omega)
              have y3 : IntKind.i64.wrap ((k : Int) * C) = (k : Int) * C := IntWalk.i64_in _ (by omega)
              have y4 : IntKind.i64.wrap ((k : Int) * C + l) = (k : Int) * C + l := IntWalk.i64_in _ (by omega)
              have y5 : IntKind.i64.wrap ((r : Int) * C) = (r : Int) * C := IntWalk.i64_in _ (by omega)
              have y6 : IntKind.i64.wrap ((r : Int) * C + l) = (r : Int) * C + l := IntWalk.i64_in _ (by omega)
              have z1 : (r : Int) * K + k < (R : Int) * K := by rw [← Int.natCast_mul, ← Int.natCast_mul]; omega
              have z2 : 0 ≤ (r : Int) * K + k := by omega
              have z3 : ((r : Int) * K + k).toNat = r * K + k := by rw [← Int.natCast_mul]; omega
              have z4 : (k : Int) * C + l < (K : Int) * C := by rw [← Int.natCast_mul, ← Int.natCast_mul]; omega
              have z5 : 0 ≤ (k : Int) * C + l := by omega
              have z6 : ((k : Int) * C + l).toNat = k * C + l := by rw [← Int.natCast_mul]; omega
              have z7 : (r : Int) * C + l < (R : Int) * C := by rw [← Int.natCast_mul, ← Int.natCast_mul]; omega
              have z8 : 0 ≤ (r : Int) * C + l := by omega
              have z9 : ((r : Int) * C + l).toNat = r * C + l := by rw [← Int.natCast_mul]; omega
              go_wp2_with fail
              go_quiet ((go_at_call 66; first | exact quiet0 (rmul_any _ _) | exact quiet1 (rmul_any _ _)))
              have hfq := hfr.drN nq
              have Bmq := Bm.drewN nq
              have Bcq := Bc.drewN nq
              clear Bmc Bmf cc cf c0 c1 B0c B0f B1c B1f B2c B2f
              generalize wr.drewN nq = wq at hfq Bmq Bcq ⊢
              have Bmc := Bmq.cell
              have cc := Bcq.icell (k := r * C + l) (by rw [upto_length]; exact hrl)
              rw [upto_ix hrl, mulS_at hltl] at cc
              have cf := Bcq.thawed (r * C + l)
              go_wp2_with fail
              refine wp_region_still_tail 20 (by kernel_rfl) (by kernel_rfl) ?_
              simp only [List.take_succ_cons, List.take_zero, List.drop_succ_cons, List.drop_zero]
              repeat (first | still_call (still0 (radd_any _ _ _)) | still_step)
              refine wpStill_nil ?_
              go_wp2
              go_roundw
              case rel =>
                refine ⟨l + 1, by omega, by go_num, (hfq.drew).st (fun _ => rfl) _, Bmq.far (a := ⟨b, r * C + l, none⟩) (by dsimp only; omega) _, ?_⟩
                have hs := Bcq.iset (r * C + l) (add (sumTo (fun t => mul (ix xs (r * K + t)) (ix ys (t * C + l))) k) (mul (ix xs (r * K + k)) (ix ys (k * C + l))))
                rw [mulS_cell hltr hltl] at hs
                exact hs
              case measure => simp [intOf]; omega
            · obtain rfl : l = C := by omega
              go_wp2
              go_roundw
              case rel => exact ⟨r + 1, by omega, by go_num, hfr, Bm, by rw [← mulS_row]; exact Bc⟩
              case measure => simp [intOf]; omega
        · obtain rfl : r = R := by omega
          go_wp2
          go_roundw
          case rel => exact ⟨k + 1, by omega, by go_num, hfr, Bm, by rw [← mulS_next]; exact Bc⟩
          case measure => simp [intOf]; omega
    · obtain rfl : k = K := by omega
      replace B2 := B2.farS hfr (by omega)
      have B2c := B2.cell
      have B2f := B2.thawed
      have B2z := B2.lt
      have B2k := lt_add B2z
      have hbl := Far.toBelow hw1 hfr (by omega) (by rintro k rfl; omega)
      go_wp2
      refine bodyPost_ret (v := .agg #[.int .i64 R, .int .i64 C, .slice (some ⟨b, 0, none⟩) (R * C) (R * C)]) (by simp [results, Tryd.results64, go_sem, B2c]) rfl ⟨_, rfl, ?_, (by repeat (first | fail | (with_reducible exact Below.refl _ _) | (with_reducible exact hbl) | (with_reducible refine Below.al ?_ _) | (with_reducible refine Below.drN ?_ _) | (with_reducible refine Below.drew ?_) | (with_reducible refine Below.st ?_ ?_ _; rotate_left 1; (first | (dsimp only; omega) | omega | (simp; omega) | simp)) | exact Below.refl _ _ | exact hbl))⟩
      rw [← mulS_all]
      exact MatNew.mk (fun _ => by omega) ((ints_upto Bc (by unfold maxLen; omega)).set3 (fun _ => by omega) _ _ _)
end Go.Proofs.YtikcdjibflleeaaDoor
end
