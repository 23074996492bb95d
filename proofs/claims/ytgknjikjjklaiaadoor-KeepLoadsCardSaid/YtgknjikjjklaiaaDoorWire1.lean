/- Contracts of package wire: number, zig, sums, fault. -/
import Derived.Test.YtgknjikjjklaiaaDoorByt
import Derived.Test.YtgknjikjjklaiaaDoorPWire3
import Derived.Test.YtgknjikjjklaiaaDoorJMat
import Derived.Test.YtgknjikjjklaiaaDoorMade
set_option linter.unusedVariables false
set_option linter.unusedSimpArgs false
set_option linter.unusedSectionVars false
set_option maxRecDepth 100000
namespace Go.Proofs.YtgknjikjjklaiaaDoor
open Go.RowKit Gal
set_option maxHeartbeats 4000000
theorem info_byte : (Tryd.prog.info? 5).map (fun i => (i.zero, i.size, i.bytes)) = some (some (.int .u8 0), 1, 1) := by kernel_rfl
theorem wireNumber_any (xs : List Nat) (x : Int) (v : Value) (base : Nat) (w : World) (hx : 0 ≤ x ∧ x ≤ 9223372036854775807) (hown : OwnRow Form.u8 5 w base noK v xs) (hlen : xs.length ≤ 1000000) (hbase : base ≤ w.heap.size) :
    Calls Tryd.prog 31 #[v, .int .i64 x] w fun e w' => ∃ v', e = .returned v' ∧ OwnRow Form.u8 5 w' base noK v' (xs ++ seven x.toNat) ∧ Below base w w' ∧ w.heap.size ≤ w'.heap.size := by
  obtain ⟨i0, hi, hz0, hz1, hz2⟩ := info_parts info_byte
  obtain ⟨x0, x1⟩ := hx
  obtain ⟨R, hR⟩ : ∃ R, xs ++ seven x.toNat = R := ⟨_, rfl⟩
  have hRl : R.length ≤ 1000009 := by
    rw [← hR, List.length_append]
    have := seven_9 (x := x.toNat) (by omega)
    omega
  have HR := Lib.hid hR
  rw [hR]
  have HRL := Lib.hid hRl
  clear hR hRl
  go_enter Tryd.func31, Tryd.ntmps31
  go_wp2
  go_loopw [0, 1] (fun u y wr => ∃ (v0 : Value) (z : Int) (ys : List Nat), v0 = u ∧ y = .int .i64 z ∧ 0 ≤ z ∧ z ≤ x ∧ Hid (ys ++ seven z.toNat = R) ∧ OwnRow Form.u8 5 wr base noK v0 ys ∧ Below base w wr ∧ w.heap.size ≤ wr.heap.size) (fun _ y _ => (intOf y).toNat)
  case atStart => exact ⟨v, x, xs, rfl, rfl, x0, Int.le_refl _, HR, hown, Below.refl _ _, Nat.le_refl _⟩
  case round =>
    clear hown
    obtain ⟨u, z, ys, rfl, rfl, z0, z1, hys, hown, hbr, hsz⟩ := hrel
    have hyl : ys.length ≤ 1000009 := by
      have h1 := HRL.out
      rw [← hys.out, List.length_append] at h1
      omega
    by_cases hlt : 128 ≤ z
    · have e1 : (z ≥ 128) = True := by simp; omega
      have hor := or_128 hlt
      have hyr : Form.u8.reads (wr.alloc (.cells #[.int .u8 ((128 + z.toNat % 128 : Nat) : Int)] 5)) (fun b => noK b ∧ u.ownBlock ≠ some b) [.int .u8 ((128 + z.toNat % 128 : Nat) : Int)] (128 + z.toNat % 128) := ⟨rfl, by omega⟩
      obtain ⟨Y, hY⟩ : ∃ Y : Nat, 128 + z.toNat % 128 = Y := ⟨_, rfl⟩
      rw [hY] at hor hyr
      have HNX : Hid ((ys ++ [Y]) ++ seven (z / 128).toNat = R) := Lib.hid (by
        rw [← hys.out, seven_high (x := z.toNat) (by omega), hY, List.append_assoc]
        have : (z / 128).toNat = z.toNat / 128 := by omega
        rw [this]
        rfl)
      have HY : Hid (0 ≤ z / 128 ∧ z / 128 ≤ x ∧ (z / 128).toNat < z.toNat) := Lib.hid (by omega)
      clear hY
      go_wp2_with (at_builtin; go_must (refine wpList_push rfl (.tmp 9) (.tmp 13) 27 rfl Form.u8 base noK 5 i0 (.int .u8 0) 1 Tryd.underlying27 hi hz0 hz1 hz2 rfl (by decide) u ys rfl (hown.keep ((Below.refl _ _).alloc (Nat.le_refl _) _)) wr.heap.size 1 [.int .u8 (Y : Int)] 5 Y rfl (Box.new _ _ _) hyr (by omega) (by unfold maxLen; omega) (by simp; omega) _ rfl ?_))
      intro g cap w' hown' hgrow hlies hgs
      have hbn : Below base w w' := Below.grown (hbr.alloc (by omega) _) hgrow (by simp; omega) (fun k hk => (hown.base_le k hk).1)
      have hsn : w.heap.size ≤ w'.heap.size := by have := hgrow.size; simp at this; omega
      have HOW := Lib.hid hown'
      clear hown' hgrow hlies hgs hyr hor
      go_wp2
      go_roundw
      case rel => exact ⟨_, z / 128, ys ++ [Y], rfl, rfl, HY.out.1, HY.out.2.1, HNX, HOW.out, hbn, hsn⟩
      case measure => simp only [intOf]; exact HY.out.2.2
    · have e1 : (z ≥ 128) = False := by simp; omega
      have hu8 : z % 256 = z := by omega
      have hyr : Form.u8.reads (wr.alloc (.cells #[.int .u8 z] 5)) (fun b => noK b ∧ u.ownBlock ≠ some b) [.int .u8 z] z.toNat := ⟨by rw [Int.toNat_of_nonneg z0], by omega⟩
      have HR2 : Hid (ys ++ [z.toNat] = R) := Lib.hid (by rw [← hys.out, seven_low (by omega)])
      go_wp2_with (at_builtin; go_must (refine wpList_push rfl (.tmp 15) (.tmp 18) 27 rfl Form.u8 base noK 5 i0 (.int .u8 0) 1 Tryd.underlying27 hi hz0 hz1 hz2 rfl (by decide) u ys rfl (hown.keep ((Below.refl _ _).alloc (Nat.le_refl _) _)) wr.heap.size 1 [.int .u8 z] 5 z.toNat rfl (Box.new _ _ _) hyr (by omega) (by unfold maxLen; omega) (by simp; omega) _ rfl ?_))
      intro g cap w' hown' hgrow hlies hgs
      have hbn : Below base w w' := Below.grown (hbr.alloc (by omega) _) hgrow (by simp; omega) (fun k hk => (hown.base_le k hk).1)
      have hsn : w.heap.size ≤ w'.heap.size := by have := hgrow.size; simp at this; omega
      have HOW := Lib.hid hown'
      clear hown' hgrow hlies hgs hyr hu8
      go_wp2
      go_ret
      exact ⟨_, rfl, by rw [← HR2.out]; exact HOW.out, hbn, hsn⟩
theorem wireZig_any (x : Int) (w : World) (hx : -2147483648 ≤ x ∧ x ≤ 2147483648) : Calls Tryd.prog 32 #[.int .i64 x] w fun e w' => e = .returned (.int .i64 (zigOf x : Int)) ∧ w = w' := by
  obtain ⟨x0, x1⟩ := hx
  by_cases h : 0 ≤ x
  · have HV : Hid ((zigOf x : Int) = x * 2) := Lib.hid (by unfold zigOf; rw [if_pos h]; omega)
    have e1 := i64_xor_zero (x * 2) (by omega) (by omega)
    have e2 : x / 9223372036854775808 = 0 := by omega
    go_enter Tryd.func32, Tryd.ntmps32
    go_wp2
    go_ret
    exact ⟨by rw [HV.out]; rfl, rfl⟩
  · have HV : Hid ((zigOf x : Int) = -1 - x * 2) := Lib.hid (by unfold zigOf; rw [if_neg h]; omega)
    have e1 := i64_not' (x * 2) (by omega) (by omega)
    have e2 : x / 9223372036854775808 = -1 := by omega
    go_enter Tryd.func32, Tryd.ntmps32
    go_wp2
    go_ret
    exact ⟨by rw [HV.out]; rfl, rfl⟩
def sumStep (s : Nat × Nat) (v : Nat) : Nat × Nat := ((s.1 + v) % 255, (s.2 + (s.1 + v) % 255) % 255)
theorem prgSums_eq (l : List Nat) : prgSums l = l.foldl sumStep (0, 0) := rfl
theorem drop_bt {l : List Nat} {t : Nat} (h : t < l.length) : l.drop t = bt l t :: l.drop (t + 1) := by
  rw [List.drop_eq_getElem_cons h]
  have := bt_get h
  rw [List.getElem?_eq_getElem h] at this
  simp only [Option.some.injEq] at this
  rw [this]
theorem wireSums_any (xs : List Nat) (a : Option Addr) (n k b o : Nat) (F : Nat → Prop) (w : World) (h : RowAt Form.u8 w F a n k b o xs) :
    Calls Tryd.prog 33 #[.slice a n k] w fun e w' => e = .returned (.agg #[.int .u8 ((prgSums xs).1 : Int), .int .u8 ((prgSums xs).2 : Int)]) ∧ Below w.heap.size w w' := by
  have HL := Lib.hid h.len
  have hmx := h.max
  unfold maxLen at hmx
  obtain ⟨⟨r1, r2⟩, hR⟩ : ∃ R, prgSums xs = R := ⟨_, rfl⟩
  rw [hR]
  have HR : Hid ((xs.drop 0).foldl sumStep (0, 0) = (r1, r2)) := Lib.hid hR
  clear hR
  go_enter Tryd.func33, Tryd.ntmps33
  go_wp2
  go_loopw [3, 4, 9] (fun x y i wr => ∃ (t s1 s2 : Nat), t ≤ n ∧ i = .int .i64 t ∧ x = .int .i64 s1 ∧ y = .int .i64 s2 ∧ s1 < 255 ∧ s2 < 255 ∧ Hid ((xs.drop t).foldl sumStep (s1, s2) = (r1, r2)) ∧ wr = w.alloc (.cells #[.int .u8 0, .int .u8 0] 76)) (fun _ _ i _ => n - (intOf i).toNat)
  case atStart => exact ⟨0, 0, 0, Nat.zero_le _, rfl, rfl, rfl, by decide, by decide, HR, rfl⟩
  case round =>
    obtain ⟨t, s1, s2, ht, rfl, rfl, rfl, h1, h2, hgo, rfl⟩ := hrel
    by_cases hlt : t < n
    · obtain rfl := h.ptr (by omega)
      obtain ⟨c0, hc⟩ := u8_cell (h.alloc (.cells #[.int .u8 0, .int .u8 0] 76)) hlt
      obtain ⟨v, hv⟩ : ∃ v, bt xs t = v := ⟨_, rfl⟩
      rw [hv] at c0 hc
      obtain ⟨u1, hu1⟩ : ∃ u1, (s1 + v) % 255 = u1 := ⟨_, rfl⟩
      obtain ⟨u2, hu2⟩ : ∃ u2, (s2 + u1) % 255 = u2 := ⟨_, rfl⟩
      have HGO : Hid ((xs.drop (t + 1)).foldl sumStep (u1, u2) = (r1, r2)) := Lib.hid (by
        rw [← hgo.out, drop_bt (l := xs) (t := t) (by rw [HL.out]; exact hlt), List.foldl_cons, hv]
        unfold sumStep
        dsimp only
        rw [hu1, hu2])
      have hb1 : u1 < 255 := by omega
      have hb2 : u2 < 255 := by omega
      have e1 : ((s1 : Int) + (v : Int)) % 255 = (u1 : Int) := by omega
      have e2 : ((s2 : Int) + (u1 : Int)) % 255 = (u2 : Int) := by omega
      clear hv hu1 hu2
      go_wp2
      go_roundw
      case rel => exact ⟨t + 1, u1, u2, by omega, by go_num, by rw [e1], by rw [e2], hb1, hb2, HGO, by trivial⟩
      case measure => simp [intOf]; omega
    · obtain rfl : n = t := by omega
      have hV : (s1, s2) = (r1, r2) := by rw [← hgo.out, List.drop_of_length_le (by rw [HL.out]; exact Nat.le_refl _)]; rfl
      simp only [Prod.mk.injEq] at hV
      obtain ⟨rfl, rfl⟩ := hV
      have bs : Box (w.alloc (.cells #[.int .u8 0, .int .u8 0] 76)) w.heap.size [.int .u8 0, .int .u8 0] 76 := Box.new' _ _ [.int .u8 0, .int .u8 0] _ rfl
      have p0 := bs.cell 0
      have p1 := bs.cell 1
      have f0 := bs.thawed 0
      have f1 := bs.thawed 1
      have bz := (bs.set 0 (.int .u8 s1)).set 1 (.int .u8 s2)
      have z0 := bz.cell 0
      have z1 := bz.cell 1
      have e1 : ((s1 : Int)) % 256 = s1 := by omega
      have e2 : ((s2 : Int)) % 256 = s2 := by omega
      go_wp2
      refine bodyPost_ret (v := .agg #[.int .u8 s1, .int .u8 s2]) (by simp [results, Tryd.results33, go_sem, z0, z1]) rfl ⟨rfl, (by repeat (first | fail | (with_reducible exact Below.refl _ _) | (with_reducible refine Below.al ?_ _) | (with_reducible refine Below.drN ?_ _) | (with_reducible refine Below.drew ?_) | (with_reducible refine Below.st ?_ ?_ _; rotate_left 1; (first | (dsimp only; omega) | omega | (simp; omega) | simp)) | exact Below.refl _ _))⟩
theorem wireFault_any (m : MsgD) (a : Option Addr) (n k b o : Nat) (w : World) (hm : IntsAt w a n k b o m.body.cells) :
    Calls Tryd.prog 30 #[.agg #[.int .i64 m.kind, .int .i64 m.micro, .int .i64 m.body.rows, .int .i64 m.body.cols, .slice a n k]] w fun e w' => e = .returned (errV (msgFault m)) ∧ Below w.heap.size w w' := by
  obtain ⟨kd, mi, ⟨r, c, xs⟩⟩ := m
  dsimp only at hm ⊢
  obtain ⟨ob, hob⟩ : ∃ ob : Obj, ob = .cells #[.int .i64 kd, .int .i64 mi, .int .i64 r, .int .i64 c, .slice a n k] 26 := ⟨_, rfl⟩
  by_cases h1 : kd < 1 ∨ 2 < kd ∨ mi < 0 ∨ 11 < mi
  · have HF : Hid (msgFault ⟨kd, mi, ⟨r, c, xs⟩⟩ = 1) := Lib.hid (if_pos h1)
    by_cases g1 : kd = 1
    · have e1 : (kd != 1) = false := by simp [g1]
      by_cases g3 : mi < 0
      · clear h1 g1
        go_enter Tryd.func30, Tryd.ntmps30
        go_wp2
        go_ret
        exact ⟨by rw [HF.out]; rfl, (by repeat (first | fail | (with_reducible exact Below.refl _ _) | (with_reducible refine Below.al ?_ _) | (with_reducible refine Below.drN ?_ _) | (with_reducible refine Below.drew ?_) | (with_reducible refine Below.st ?_ ?_ _; rotate_left 1; (first | (dsimp only; omega) | omega | (simp; omega) | simp)) | exact Below.refl _ _))⟩
      · have e3 : (mi < 0) = False := by simp; omega
        have e4 : (mi ≥ 12) = True := by simp; omega
        clear h1 g1 g3
        go_enter Tryd.func30, Tryd.ntmps30
        go_wp2
        go_ret
        exact ⟨by rw [HF.out]; rfl, (by repeat (first | fail | (with_reducible exact Below.refl _ _) | (with_reducible refine Below.al ?_ _) | (with_reducible refine Below.drN ?_ _) | (with_reducible refine Below.drew ?_) | (with_reducible refine Below.st ?_ ?_ _; rotate_left 1; (first | (dsimp only; omega) | omega | (simp; omega) | simp)) | exact Below.refl _ _))⟩
    · have e1 : (kd != 1) = true := by simp [g1]
      by_cases g2 : kd = 2
      · have e2 : (kd != 2) = false := by simp [g2]
        by_cases g3 : mi < 0
        · clear h1 g1 g2
          go_enter Tryd.func30, Tryd.ntmps30
          go_wp2
          go_ret
          exact ⟨by rw [HF.out]; rfl, (by repeat (first | fail | (with_reducible exact Below.refl _ _) | (with_reducible refine Below.al ?_ _) | (with_reducible refine Below.drN ?_ _) | (with_reducible refine Below.drew ?_) | (with_reducible refine Below.st ?_ ?_ _; rotate_left 1; (first | (dsimp only; omega) | omega | (simp; omega) | simp)) | exact Below.refl _ _))⟩
        · have e3 : (mi < 0) = False := by simp; omega
          have e4 : (mi ≥ 12) = True := by simp; omega
          clear h1 g1 g2 g3
          go_enter Tryd.func30, Tryd.ntmps30
          go_wp2
          go_ret
          exact ⟨by rw [HF.out]; rfl, (by repeat (first | fail | (with_reducible exact Below.refl _ _) | (with_reducible refine Below.al ?_ _) | (with_reducible refine Below.drN ?_ _) | (with_reducible refine Below.drew ?_) | (with_reducible refine Below.st ?_ ?_ _; rotate_left 1; (first | (dsimp only; omega) | omega | (simp; omega) | simp)) | exact Below.refl _ _))⟩
      · have e2 : (kd != 2) = true := by simp [g2]
        clear h1 g1 g2
        go_enter Tryd.func30, Tryd.ntmps30
        go_wp2
        go_ret
        exact ⟨by rw [HF.out]; rfl, (by repeat (first | fail | (with_reducible exact Below.refl _ _) | (with_reducible refine Below.al ?_ _) | (with_reducible refine Below.drN ?_ _) | (with_reducible refine Below.drew ?_) | (with_reducible refine Below.st ?_ ?_ _; rotate_left 1; (first | (dsimp only; omega) | omega | (simp; omega) | simp)) | exact Below.refl _ _))⟩
  · have HF : Hid (msgFault ⟨kd, mi, ⟨r, c, xs⟩⟩ = matFault r c xs) := Lib.hid (if_neg h1)
    have e3 : (mi < 0) = False := by simp; omega
    have e4 : (mi ≥ 12) = False := by simp; omega
    have hb0 : Below w.heap.size w (w.alloc ob) := (by repeat (first | fail | (with_reducible exact Below.refl _ _) | (with_reducible refine Below.al ?_ _) | (with_reducible refine Below.drN ?_ _) | (with_reducible refine Below.drew ?_) | (with_reducible refine Below.st ?_ ?_ _; rotate_left 1; (first | (dsimp only; omega) | omega | (simp; omega) | simp)) | exact Below.refl _ _))
    rw [hob] at hb0
    by_cases g1 : kd = 1
    · have e1 : (kd != 1) = false := by simp [g1]
      clear h1 g1
      go_enter Tryd.func30, Tryd.ntmps30
      go_wp2_with fail
      refine (matCheck_any r c a n k b o xs _ (hm.alloc _)).mono ?_
      rintro e w1 ⟨rfl, hb1⟩
      go_wp2
      go_ret
      exact ⟨by rw [HF.out]; rfl, (by repeat (first | fail | (with_reducible exact Below.refl _ _) | (with_reducible exact hb0) | (with_reducible refine Below.al ?_ _) | (with_reducible refine Below.drN ?_ _) | (with_reducible refine Below.drew ?_) | (with_reducible refine Below.st ?_ ?_ _; rotate_left 1; (first | (dsimp only; omega) | omega | (simp; omega) | simp)) | (with_reducible refine Below.go ?_ hb1) | exact Below.refl _ _ | exact hb0))⟩
    · have e1 : (kd != 1) = true := by simp [g1]
      have e2 : (kd != 2) = false := by simp; omega
      clear h1 g1
      go_enter Tryd.func30, Tryd.ntmps30
      go_wp2_with fail
      refine (matCheck_any r c a n k b o xs _ (hm.alloc _)).mono ?_
      rintro e w1 ⟨rfl, hb1⟩
      go_wp2
      go_ret
      exact ⟨by rw [HF.out]; rfl, (by repeat (first | fail | (with_reducible exact Below.refl _ _) | (with_reducible exact hb0) | (with_reducible refine Below.al ?_ _) | (with_reducible refine Below.drN ?_ _) | (with_reducible refine Below.drew ?_) | (with_reducible refine Below.st ?_ ?_ _; rotate_left 1; (first | (dsimp only; omega) | omega | (simp; omega) | simp)) | (with_reducible refine Below.go ?_ hb1) | exact Below.refl _ _ | exact hb0))⟩
end Go.Proofs.YtgknjikjjklaiaaDoor
