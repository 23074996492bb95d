/- The reference: MessageFault, MessageOf. -/
import Derived.Test.YtgknjikjjklaiaaDoorRWire1
import Derived.Test.YtgknjikjjklaiaaDoorWire2
import Derived.Test.YtgknjikjjklaiaaDoorRef1
set_option linter.unusedVariables false
set_option linter.unusedSimpArgs false
set_option linter.unusedSectionVars false
set_option maxRecDepth 100000
namespace Go.Proofs.YtgknjikjjklaiaaDoor
open Go.RowKit Gal
set_option maxHeartbeats 8000000
theorem refMsgFault_any (m : MsgD) (a : Option Addr) (n k b o : Nat) (w : World) (hm : IntsAt w a n k b o m.body.cells) :
    Calls Tryd.prog 10 #[.agg #[.int .i64 m.kind, .int .i64 m.micro, .int .i64 m.body.rows, .int .i64 m.body.cols, .slice a n k]] w fun e w' => e = .returned (.int .i64 (msgFault m)) ∧ Below w.heap.size w w' := by
  obtain ⟨kd, mi, ⟨r, c, xs⟩⟩ := m
  dsimp only at hm ⊢
  obtain ⟨ob, hob⟩ : ∃ ob : Obj, ob = .cells #[.int .i64 kd, .int .i64 mi, .int .i64 r, .int .i64 c, .slice a n k] 26 := ⟨_, rfl⟩
  by_cases h1 : kd < 1 ∨ 2 < kd ∨ mi < 0 ∨ 11 < mi
  · have HF : Hid (msgFault ⟨kd, mi, ⟨r, c, xs⟩⟩ = 1) := Lib.hid (if_pos h1)
    by_cases g1 : kd < 1
    · skip
      clear h1
      go_enter Tryd.func10, Tryd.ntmps10
      go_wp2
      go_ret
      exact ⟨by rw [HF.out]; rfl, (by repeat (first | fail | (with_reducible exact Below.refl _ _) | (with_reducible refine Below.al ?_ _) | (with_reducible refine Below.drN ?_ _) | (with_reducible refine Below.drew ?_) | (with_reducible refine Below.st ?_ ?_ _; rotate_left 1; (first | (dsimp only; omega) | omega | (simp; omega) | simp)) | exact Below.refl _ _))⟩
    · have e1 : (kd < 1) = False := by simp; omega
      by_cases g2 : kd > 2
      · clear g1
        clear h1
        go_enter Tryd.func10, Tryd.ntmps10
        go_wp2
        go_ret
        exact ⟨by rw [HF.out]; rfl, (by repeat (first | fail | (with_reducible exact Below.refl _ _) | (with_reducible refine Below.al ?_ _) | (with_reducible refine Below.drN ?_ _) | (with_reducible refine Below.drew ?_) | (with_reducible refine Below.st ?_ ?_ _; rotate_left 1; (first | (dsimp only; omega) | omega | (simp; omega) | simp)) | exact Below.refl _ _))⟩
      · have e2 : (kd > 2) = False := by simp; omega
        by_cases g3 : mi < 0
        · clear g1 g2
          clear h1
          go_enter Tryd.func10, Tryd.ntmps10
          go_wp2
          go_ret
          exact ⟨by rw [HF.out]; rfl, (by repeat (first | fail | (with_reducible exact Below.refl _ _) | (with_reducible refine Below.al ?_ _) | (with_reducible refine Below.drN ?_ _) | (with_reducible refine Below.drew ?_) | (with_reducible refine Below.st ?_ ?_ _; rotate_left 1; (first | (dsimp only; omega) | omega | (simp; omega) | simp)) | exact Below.refl _ _))⟩
        · have e3 : (mi < 0) = False := by simp; omega
          have e4 : (mi > 11) = True := by simp; omega
          clear g1 g2 g3
          clear h1
          go_enter Tryd.func10, Tryd.ntmps10
          go_wp2
          go_ret
          exact ⟨by rw [HF.out]; rfl, (by repeat (first | fail | (with_reducible exact Below.refl _ _) | (with_reducible refine Below.al ?_ _) | (with_reducible refine Below.drN ?_ _) | (with_reducible refine Below.drew ?_) | (with_reducible refine Below.st ?_ ?_ _; rotate_left 1; (first | (dsimp only; omega) | omega | (simp; omega) | simp)) | exact Below.refl _ _))⟩
  · have HF : Hid (msgFault ⟨kd, mi, ⟨r, c, xs⟩⟩ = matFault r c xs) := Lib.hid (if_neg h1)
    have e1 : (kd < 1) = False := by simp; omega
    have e2 : (kd > 2) = False := by simp; omega
    have e3 : (mi < 0) = False := by simp; omega
    have e4 : (mi > 11) = False := by simp; omega
    have hb0 : Below w.heap.size w (w.alloc ob) := (by repeat (first | fail | (with_reducible exact Below.refl _ _) | (with_reducible refine Below.al ?_ _) | (with_reducible refine Below.drN ?_ _) | (with_reducible refine Below.drew ?_) | (with_reducible refine Below.st ?_ ?_ _; rotate_left 1; (first | (dsimp only; omega) | omega | (simp; omega) | simp)) | exact Below.refl _ _))
    rw [hob] at hb0
    clear h1
    go_enter Tryd.func10, Tryd.ntmps10
    go_wp2_with fail
    refine (refMatFault_any ⟨r, c, xs⟩ _ _ (MatAt.mk (hm.alloc _))).mono ?_
    rintro e w1 ⟨rfl, hb1⟩
    go_wp2
    go_ret
    exact ⟨by rw [HF.out]; rfl, (by repeat (first | fail | (with_reducible exact Below.refl _ _) | (with_reducible exact hb0) | (with_reducible refine Below.al ?_ _) | (with_reducible refine Below.drN ?_ _) | (with_reducible refine Below.drew ?_) | (with_reducible refine Below.st ?_ ?_ _; rotate_left 1; (first | (dsimp only; omega) | omega | (simp; omega) | simp)) | (with_reducible refine Below.go ?_ hb1) | exact Below.refl _ _ | exact hb0))⟩
theorem refMsgOf_ok (m : MsgD) (a : Option Addr) (n k b o : Nat) (w : World) (hm : IntsAt w a n k b o m.body.cells) (hf : msgFault m = 0) :
    Calls Tryd.prog 12 #[.agg #[.int .i64 m.kind, .int .i64 m.micro, .int .i64 m.body.rows, .int .i64 m.body.cols, .slice a n k]] w fun e w' => ∃ v', e = .returned v' ∧ OwnRow Form.u8 5 w' w.heap.size noK v' (msgBytes m) ∧ Below w.heap.size w w' := by
  have HF := Lib.hid hf
  have HL := Lib.hid hm.len
  have hn := msg_cells hf
  rw [HL.out] at hn
  obtain ⟨h1, h2, h3⟩ := msgFault_ok hf
  obtain ⟨h4, h5, h6, h7⟩ := matFault_0 h3
  obtain ⟨k1, k2⟩ := h1
  obtain ⟨m1, m2⟩ := h2
  obtain ⟨r1, r2⟩ := h4
  obtain ⟨c1, c2⟩ := h5
  have HE := Lib.hid (ends_mem h7)
  obtain ⟨i0, hi, hz0, hz1, hz2⟩ := info_parts info_byte
  obtain ⟨j0, hj, hy0, hy1, hy2⟩ := info_parts info_int'
  obtain ⟨ob, hob⟩ : ∃ ob : Obj, Obj.cells #[.int .i64 m.kind, .int .i64 m.micro, .int .i64 m.body.rows, .int .i64 m.body.cols, .slice a n k] 26 = ob := ⟨_, rfl⟩
  obtain ⟨ol, hol⟩ : ∃ ol : Obj, Obj.cells #[.int .i64 m.kind, .int .i64 m.micro, .int .i64 m.body.rows, .int .i64 m.body.cols] 3 = ol := ⟨_, rfl⟩
  have hbx : Box ((w.alloc ob).alloc ol) w.heap.size [.int .i64 m.kind, .int .i64 m.micro, .int .i64 m.body.rows, .int .i64 m.body.cols, .slice a n k] 26 := by rw [← hob]; exact (Box.new' _ _ [.int .i64 m.kind, .int .i64 m.micro, .int .i64 m.body.rows, .int .i64 m.body.cols, .slice a n k] _ rfl).alloc _
  have hownl : OwnRow Form.int 3 ((w.alloc ob).alloc ol) (w.heap.size + 1) noK (.slice (some ⟨w.heap.size + 1, 0, none⟩) 4 4) (((msgNums m).take (4 + 0)).map fun (x : Nat) => (x : Int)) := by
    have e1 : (((msgNums m).take (4 + 0)).map fun (x : Nat) => (x : Int)) = [m.kind, m.micro, m.body.rows, m.body.cols] := by
      unfold msgNums
      simp
      omega
    rw [e1, ← hol]
    exact own_ints (xs := [m.kind, m.micro, m.body.rows, m.body.cols]) (Box.new' _ _ [.int .i64 m.kind, .int .i64 m.micro, .int .i64 m.body.rows, .int .i64 m.body.cols] _ (by simp)) (Nat.le_refl _) (by unfold maxLen; simp)
  obtain ⟨wz, hwz⟩ : ∃ wz, (w.alloc ob).alloc ol = wz := ⟨_, rfl⟩
  have hbz : Below w.heap.size w wz := by rw [← hwz]; exact (by repeat (first | fail | (with_reducible exact Below.refl _ _) | (with_reducible refine Below.al ?_ _) | (with_reducible refine Below.drN ?_ _) | (with_reducible refine Below.drew ?_) | (with_reducible refine Below.st ?_ ?_ _; rotate_left 1; (first | (dsimp only; omega) | omega | (simp; omega) | simp)) | exact Below.refl _ _))
  have hsz : wz.heap.size = w.heap.size + 2 := by rw [← hwz]; simp
  rw [hwz] at hbx hownl
  have hmz := hm.keep hbz
  obtain ⟨B, hB⟩ : ∃ B, w.heap.size + 1 = B := ⟨_, rfl⟩
  rw [hB] at hownl
  have HB := Lib.hid hB
  have hBz : B ≤ wz.heap.size := by omega
  have HWZ := Lib.hid hwz
  have HOB := Lib.hid hob
  have HOL := Lib.hid hol
  have hwB : w.heap.size ≤ B := by omega
  have hwB2 : w.heap.size < B := by omega
  have c0 := hbx.cell 4
  clear hf h3 h6 h7 hbx hB hwz hob hol hsz
  go_enter Tryd.func12, Tryd.ntmps12
  go_wp2
  rw [HOB.out, HOL.out, HWZ.out]
  go_loopw [3, 4] (fun u i wr => ∃ (t : Nat) (v : Value), v = u ∧ t ≤ n ∧ i = .int .i64 t ∧ OwnRow Form.int 3 wr B noK v (((msgNums m).take (4 + t)).map fun (x : Nat) => (x : Int)) ∧ Below B wz wr ∧ wz.heap.size ≤ wr.heap.size) (fun _ i _ => n - (intOf i).toNat)
  case atStart => exact ⟨0, _, rfl, Nat.zero_le _, rfl, by rw [HB.out]; exact hownl, Below.refl _ _, Nat.le_refl _⟩
  case round =>
    clear hownl
    obtain ⟨t, v, rfl, ht, rfl, hown, hbr, hsz⟩ := hrel
    have cb := (hbr.cell (p := ⟨w.heap.size, 4, none⟩) hwB2).trans c0
    by_cases hlt : t < n
    · have cx := (hm.keep (hbz.trans (hbr.mono hwB))).cell t hlt
      have hz := HE.out (ix m.body.cells t) (by
        have : m.body.cells[t]? = some (ix m.body.cells t) := by unfold ix; rw [List.getElem?_eq_getElem (by rw [HL.out]; exact hlt)]; rfl
        exact List.mem_of_getElem? this)
      have hnx := nums_cell (m := m) (t := t) (by rw [HL.out]; exact hlt)
      obtain ⟨x, hx⟩ : ∃ x, ix m.body.cells t = x := ⟨_, rfl⟩
      rw [hx] at cx hz hnx
      obtain ⟨z, hze⟩ : ∃ z, zigOf x = z := ⟨_, rfl⟩
      rw [hze] at hnx
      have hlen : (((msgNums m).take (4 + t)).map fun (x : Nat) => (x : Int)).length = 4 + t := by rw [List.length_map, List.length_take, nums_len, HL.out]; omega
      have HNX : Hid ((((msgNums m).take (4 + t)).map fun (x : Nat) => (x : Int)) ++ [(z : Int)] = (((msgNums m).take (4 + (t + 1))).map fun (x : Nat) => (x : Int))) := Lib.hid (by
        have hl4 : 4 + t < (msgNums m).length := by rw [nums_len, HL.out]; omega
        rw [show 4 + (t + 1) = (4 + t) + 1 by omega, List.take_succ_eq_append_getElem hl4, List.map_append]
        rw [List.getElem?_eq_getElem hl4] at hnx
        simp only [Option.some.injEq] at hnx
        rw [hnx]
        rfl)
      obtain ⟨Lx, hLx⟩ : ∃ Lx, (((msgNums m).take (4 + t)).map fun (x : Nat) => (x : Int)) = Lx := ⟨_, rfl⟩
      rw [hLx] at hown hlen HNX
      obtain rfl := hm.ptr (by omega)
      obtain ⟨z1, z2⟩ := hz
      clear hnx hx hLx
      by_cases hs : 0 ≤ x
      · have e1 : (x ≥ 0) = True := by simp; omega
        have e2 : 2 * x = (z : Int) := by rw [← hze]; unfold zigOf; rw [if_pos hs]; omega
        clear hs hze
        go_wp2_with (at_builtin; go_must (refine wpList_push rfl (.tmp 37) (.tmp 40) 22 rfl Form.int B noK 3 j0 (.int .i64 0) 8 Tryd.underlying22 hj hy0 hy1 hy2 rfl (by decide) v Lx rfl (hown.keep ((Below.refl _ _).alloc (Nat.le_refl _) _)) wr.heap.size 1 [.int .i64 (z : Int)] 3 (z : Int) rfl (Box.new _ _ _) rfl (by rw [hlen]; omega) (by rw [hlen]; unfold maxLen; omega) (by simp; omega) _ rfl ?_))
        intro g cap w5 hown5 hgrow hlies hgs
        have hbn : Below B wz w5 := Below.grown (hbr.alloc (by omega) _) hgrow (by simp; omega) (fun k hk => (hown.base_le k hk).1)
        have hsn : wz.heap.size ≤ w5.heap.size := by have := hgrow.size; simp at this; omega
        rw [HNX.out] at hown5
        have HOW := Lib.hid hown5
        clear hown5 hgrow hlies hgs
        go_wp2
        go_roundw
        case rel => exact ⟨t + 1, _, rfl, by omega, by go_num, HOW.out, hbn, hsn⟩
        case measure => simp [intOf]; omega
      · have e1 : (x ≥ 0) = False := by simp; omega
        have e2 : -2 * x - 1 = (z : Int) := by rw [← hze]; unfold zigOf; rw [if_neg hs]; omega
        have e3 : -(2 * x) - 1 = (z : Int) := by omega
        clear hs hze
        go_wp2_with (at_builtin; go_must (refine wpList_push rfl (.tmp 42) (.tmp 46) 22 rfl Form.int B noK 3 j0 (.int .i64 0) 8 Tryd.underlying22 hj hy0 hy1 hy2 rfl (by decide) v Lx rfl (hown.keep ((Below.refl _ _).alloc (Nat.le_refl _) _)) wr.heap.size 1 [.int .i64 (z : Int)] 3 (z : Int) rfl (Box.new _ _ _) rfl (by rw [hlen]; omega) (by rw [hlen]; unfold maxLen; omega) (by simp; omega) _ rfl ?_))
        intro g cap w5 hown5 hgrow hlies hgs
        have hbn : Below B wz w5 := Below.grown (hbr.alloc (by omega) _) hgrow (by simp; omega) (fun k hk => (hown.base_le k hk).1)
        have hsn : wz.heap.size ≤ w5.heap.size := by have := hgrow.size; simp at this; omega
        rw [HNX.out] at hown5
        have HOW := Lib.hid hown5
        clear hown5 hgrow hlies hgs
        go_wp2
        go_roundw
        case rel => exact ⟨t + 1, _, rfl, by omega, by go_num, HOW.out, hbn, hsn⟩
        case measure => simp [intOf]; omega
    · obtain rfl : n = t := by omega
      have hall : (msgNums m).take (4 + n) = msgNums m := List.take_of_length_le (by rw [nums_len, HL.out]; exact Nat.le_refl _)
      rw [hall] at hown
      obtain ⟨N, hN⟩ : ∃ N, msgNums m = N := ⟨_, rfl⟩
      have hNl : N.length = 4 + n := by rw [← hN, nums_len, HL.out]
      have hNb : ∀ x ∈ N, x < 4294967295 := by rw [← hN]; exact msgNums_lt HF.out
      have HN := Lib.hid hN
      have HNB := Lib.hid hNb
      rw [hN] at hown
      obtain ⟨al, kl, bl, hv, _, hrow⟩ := hown.row (G := anyB) (fun _ _ _ => trivial) (fun _ _ => trivial)
      rw [List.length_map, hNl] at hv hrow
      subst hv
      have hil := hrow.ints
      obtain ⟨wm, rfl⟩ : ∃ wm : World, wm = wr := ⟨_, rfl⟩
      have hbm : Below w.heap.size w wm := hbz.trans ((hbr.mono hwB))
      have hsm : w.heap.size ≤ wm.heap.size := hbm.size
      clear hrow hown hN hNb hall hbr hsz
      go_wp2
      go_loopw [6, 7] (fun u i wr => ∃ (t : Nat) (v : Value), v = u ∧ t ≤ 4 + n ∧ i = .int .i64 t ∧ OwnRow Form.u8 5 wr wm.heap.size noK v ((N.take t).flatMap seven) ∧ Below wm.heap.size wm wr) (fun _ i _ => 4 + n - (intOf i).toNat)
      case atStart => exact ⟨0, _, rfl, Nat.zero_le _, rfl, OwnRow.nil _ _ _ _ _, Below.refl _ _⟩
      case round =>
        obtain ⟨t, v, rfl, ht, rfl, hown, hbr⟩ := hrel
        have hlen : ((N.take t).flatMap seven).length ≤ 3000 := by rw [← HN.out]; exact nums_take_len HF.out t
        by_cases hlt : t < 4 + n
        · have cx := (hil.keep hbr).cell t hlt
          obtain ⟨x, hx⟩ : ∃ x, N[t]? = some x := ⟨N[t]'(by omega), List.getElem?_eq_getElem (by omega)⟩
          have hix : ix (N.map fun (x : Nat) => (x : Int)) t = x := by simp [ix, hx]
          rw [hix, Nat.zero_add] at cx
          have hxb := HNB.out x (List.mem_of_getElem? hx)
          have hnx := sevens_take hx
          have HNX := Lib.hid hnx
          have hsl := seven_9 (x := x) (by omega)
          obtain rfl := hil.ptr (by omega)
          clear hx hix hnx
          go_wp2_with fail
          refine (refSeven_any x _ (by omega)).mono ?_
          rintro e w2 ⟨v1, rfl, hown1, hb1⟩
          obtain ⟨a1, k1, b1, hv, _, hr1⟩ := hown1.row (G := anyB) (fun _ _ _ => trivial) (fun _ _ => trivial)
          subst hv
          have hown2 := hown.keep hb1
          have hbt : Below wm.heap.size wm w2 := hbr.trans (hb1.mono hbr.size)
          clear hown1 hown hb1
          go_wp2_with (at_builtin; go_must (refine wpList_append_flat rfl (.tmp 59) (.tmp 60) 27 rfl Form.u8 u8_plainly wm.heap.size noK 5 i0 (.int .u8 0) 1 Tryd.underlying27 hi hz0 hz1 hz2 rfl (by decide) v _ rfl hown2 anyB a1 (seven x).length k1 b1 0 (seven x) rfl hr1 (by omega) (by unfold maxLen; omega) hbt.size ?_))
          intro v' w' hown' hgrow hlies
          have hbn : Below wm.heap.size wm w' := Below.grown hbt hgrow hbt.size (fun k hk => (hown2.base_le k hk).1)
          rw [← HNX.out] at hown'
          have HO := Lib.hid hown'
          clear hown' hgrow hlies hown2 hr1
          go_wp2
          go_roundw
          case rel => exact ⟨t + 1, v', rfl, by omega, by go_num, HO.out, hbn⟩
          case measure => simp [intOf]; omega
        · obtain rfl : 4 + n = t := by omega
          rw [List.take_of_length_le (by rw [hNl]; exact Nat.le_refl _)] at hown hlen
          obtain ⟨L, hLs⟩ : ∃ L, N.flatMap seven = L := ⟨_, rfl⟩
          rw [hLs] at hown hlen
          have HLS : Hid (msgBytes m = L ++ [(prgSums L).1, (prgSums L).2]) := Lib.hid (by unfold msgBytes withSums; rw [HN.out, hLs])
          obtain ⟨av, cv, bv, hv, _, hrow⟩ := hown.row (G := anyB) (fun _ _ _ => trivial) (fun _ _ => trivial)
          subst hv
          obtain ⟨S, hS⟩ : ∃ S, [(prgSums L).1, (prgSums L).2] = S := ⟨_, rfl⟩
          have hSl : S.length = 2 := by rw [← hS]; rfl
          rw [hS] at HLS
          have HS := Lib.hid hS
          clear hLs hS
          go_wp2_with fail
          refine (refSumsOf_any L av _ cv bv 0 anyB _ hrow (by omega)).mono ?_
          rintro e w2 ⟨g, rfl, hg, hrs, hb2⟩
          rw [HS.out] at hrs
          have hown2 := hown.keep hb2
          have hbt : Below wm.heap.size wm w2 := hbr.trans (hb2.mono hbr.size)
          clear hown hb2 hrow
          go_wp2_with (at_builtin; go_must (refine wpList_append_flat rfl (.tmp 64) (.tmp 65) 27 rfl Form.u8 u8_plainly wm.heap.size noK 5 i0 (.int .u8 0) 1 Tryd.underlying27 hi hz0 hz1 hz2 rfl (by decide) _ L rfl hown2 _ (some ⟨g, 0, none⟩) 2 2 g 0 S rfl hrs (by omega) (by unfold maxLen; omega) hbt.size ?_))
          intro v' w' hown' hgrow hlies
          have hbn : Below wm.heap.size wm w' := Below.grown hbt hgrow hbt.size (fun k hk => (hown2.base_le k hk).1)
          have hfin : Below w.heap.size w w' := hbm.trans (hbn.mono hsm)
          have HO : Hid (OwnRow Form.u8 5 w' w.heap.size noK v' (msgBytes m)) := Lib.hid (by rw [HLS.out]; exact hown'.lower hsm)
          clear hown' hgrow hlies hown2 hrs
          go_wp2
          go_ret
          exact ⟨v', rfl, HO.out, hfin⟩
end Go.Proofs.YtgknjikjjklaiaaDoor
