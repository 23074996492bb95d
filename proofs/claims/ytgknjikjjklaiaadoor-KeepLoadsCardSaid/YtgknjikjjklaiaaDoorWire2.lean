/- Contracts of package wire: Encode. -/
import Derived.Test.YtgknjikjjklaiaaDoorWire1
set_option linter.unusedVariables false
set_option linter.unusedSimpArgs false
set_option linter.unusedSectionVars false
set_option maxRecDepth 100000
namespace Gal
theorem sevens_take {l : List Nat} {t x : Nat} (h : l[t]? = some x) : (l.take (t + 1)).flatMap seven = (l.take t).flatMap seven ++ seven x := by
  have hl : t < l.length := by
    rcases Nat.lt_or_ge t l.length with h1 | h1
    · exact h1
    · rw [List.getElem?_eq_none h1] at h; cases h
  rw [List.take_succ_eq_append_getElem hl, List.flatMap_append]
  rw [List.getElem?_eq_getElem hl] at h
  simp only [Option.some.injEq] at h
  rw [h]
  simp
theorem sevens_len {l : List Nat} (h : ∀ x ∈ l, x < 9223372036854775808) : (l.flatMap seven).length ≤ 9 * l.length := by
  induction l with
  | nil => simp
  | cons x l ih =>
    rw [List.flatMap_cons, List.length_append, List.length_cons]
    have h1 := seven_9 (h x (by simp))
    have h2 := ih fun y hy => h y (by simp [hy])
    omega
theorem msg_cells {m : MsgD} (h : msgFault m = 0) : m.body.cells.length ≤ 288 := by
  obtain ⟨_, _, h3⟩ := msgFault_ok h
  obtain ⟨h4, h5, h6, _⟩ := matFault_0 h3
  have h7 : m.body.rows * m.body.cols ≤ 24 * 12 := Int.mul_le_mul h4.2 h5.2 h5.1 (by omega)
  omega
theorem nums_len (m : MsgD) : (msgNums m).length = 4 + m.body.cells.length := by unfold msgNums; simp; omega
theorem nums_take_len {m : MsgD} (h : msgFault m = 0) (t : Nat) : (((msgNums m).take t).flatMap seven).length ≤ 3000 := by
  have h1 := sevens_len (l := (msgNums m).take t) fun x hx => by have := msgNums_lt h x (List.mem_of_mem_take hx); omega
  have h2 := nums_len m
  have h3 := msg_cells h
  rw [List.length_take] at h1
  omega
theorem nums_cell {m : MsgD} {t : Nat} (h : t < m.body.cells.length) : (msgNums m)[4 + t]? = some (zigOf (ix m.body.cells t)) := by
  unfold msgNums
  rw [List.getElem?_append_right (by simp)]
  simp [ix, h]
end Gal
namespace Go.Proofs.YtgknjikjjklaiaaDoor
open Go.RowKit Gal
set_option maxHeartbeats 8000000
theorem wireEncode_ok (m : MsgD) (a : Option Addr) (n k b o : Nat) (w : World) (hm : IntsAt w a n k b o m.body.cells) (hf : msgFault m = 0) :
    Calls Tryd.prog 9 #[.agg #[.int .i64 m.kind, .int .i64 m.micro, .int .i64 m.body.rows, .int .i64 m.body.cols, .slice a n k]] w fun e w' => ∃ v', e = .returned (.tuple #[v', .nilIface]) ∧ OwnRow Form.u8 5 w' w.heap.size noK v' (msgBytes m) ∧ Below w.heap.size w w' := by
  have HF := Lib.hid hf
  have HL := Lib.hid hm.len
  have hn := msg_cells hf
  rw [HL.out] at hn
  obtain ⟨h1, h2, h3⟩ := msgFault_ok hf
  obtain ⟨h4, h5, h6, h7⟩ := matFault_0 h3
  obtain ⟨k1, k2⟩ := h1
  obtain ⟨m1, m2⟩ := h2
  obtain ⟨r1, r2⟩ := h4
  obtain ⟨c1, c2⟩ := h5
  have HE := Lib.hid (ends_mem h7)
  obtain ⟨i0, hi, hz0, hz1, hz2⟩ := info_parts info_byte
  have hft := wireFault_any m a n k b o (w.alloc (.cells #[.int .i64 m.kind, .int .i64 m.micro, .int .i64 m.body.rows, .int .i64 m.body.cols, .slice a n k] 26)) (hm.alloc _)
  have hbx : Box (w.alloc (.cells #[.int .i64 m.kind, .int .i64 m.micro, .int .i64 m.body.rows, .int .i64 m.body.cols, .slice a n k] 26)) w.heap.size [.int .i64 m.kind, .int .i64 m.micro, .int .i64 m.body.rows, .int .i64 m.body.cols, .slice a n k] 26 := Box.new' _ _ [.int .i64 m.kind, .int .i64 m.micro, .int .i64 m.body.rows, .int .i64 m.body.cols, .slice a n k] _ rfl
  have hma := hm.alloc (.cells #[.int .i64 m.kind, .int .i64 m.micro, .int .i64 m.body.rows, .int .i64 m.body.cols, .slice a n k] 26)
  have x0 : ∀ W : World, (Instr.index 73 (.agg #[.int .i64 m.kind, .int .i64 m.micro, .int .i64 m.body.rows, .int .i64 m.body.cols]) (.int .i64 0)).run Tryd.prog W = .ok (.int .i64 m.kind) W := fun _ => by kernel_rfl
  have x1 : ∀ W : World, (Instr.index 73 (.agg #[.int .i64 m.kind, .int .i64 m.micro, .int .i64 m.body.rows, .int .i64 m.body.cols]) (.int .i64 1)).run Tryd.prog W = .ok (.int .i64 m.micro) W := fun _ => by kernel_rfl
  have x2 : ∀ W : World, (Instr.index 73 (.agg #[.int .i64 m.kind, .int .i64 m.micro, .int .i64 m.body.rows, .int .i64 m.body.cols]) (.int .i64 2)).run Tryd.prog W = .ok (.int .i64 m.body.rows) W := fun _ => by kernel_rfl
  have x3 : ∀ W : World, (Instr.index 73 (.agg #[.int .i64 m.kind, .int .i64 m.micro, .int .i64 m.body.rows, .int .i64 m.body.cols]) (.int .i64 3)).run Tryd.prog W = .ok (.int .i64 m.body.cols) W := fun _ => by kernel_rfl
  clear hf h3 h6 h7
  go_enter Tryd.func9, Tryd.ntmps9
  go_wp2_with fail
  refine hft.mono ?_
  rintro e w1 ⟨rfl, hb1⟩
  rw [errV_nil HF.out]
  have hbx1 := hbx.keep hb1
  have hm1 := hma.keep hb1
  have hb01 : Below w.heap.size w w1 := (by repeat (first | fail | (with_reducible exact Below.refl _ _) | (with_reducible refine Below.al ?_ _) | (with_reducible refine Below.drN ?_ _) | (with_reducible refine Below.drew ?_) | (with_reducible refine Below.st ?_ ?_ _; rotate_left 1; (first | (dsimp only; omega) | omega | (simp; omega) | simp)) | (with_reducible refine Below.go ?_ hb1) | exact Below.refl _ _))
  have hs1 : w.heap.size + 1 ≤ w1.heap.size := by have := hb1.size; simp at this; omega
  obtain ⟨B, hB⟩ : ∃ B, w1.heap.size = B := ⟨_, rfl⟩
  have hB1 : B ≤ w1.heap.size := by omega
  have HB := Lib.hid hB
  have hwB : w.heap.size ≤ B := by omega
  have c0 := hbx1.cell 0
  have c1' := hbx1.cell 1
  have c2' := hbx1.cell 2
  have c3 := hbx1.cell 3
  clear hbx hma hft hb1 hB hs1
  go_wp2
  go_loopw [5, 27] (fun u i wr => ∃ (t : Nat) (v : Value), v = u ∧ t ≤ 4 ∧ i = .int .i64 t ∧ OwnRow Form.u8 5 wr B noK v (((msgNums m).take t).flatMap seven) ∧ Below B w1 wr ∧ w1.heap.size ≤ wr.heap.size) (fun _ i _ => 4 - (intOf i).toNat)
  case atStart => exact ⟨0, _, rfl, by decide, rfl, OwnRow.nil _ _ _ _ _, Below.refl _ _, Nat.le_refl _⟩
  case round =>
    obtain ⟨t, v, rfl, ht, rfl, hown, hbr, hsz⟩ := hrel
    rcases (by omega : t = 0 ∨ t = 1 ∨ t = 2 ∨ t = 3 ∨ t = 4) with rfl | rfl | rfl | rfl | rfl
    · skip
      have hnx := sevens_take (l := msgNums m) (t := 0) (x := (m.kind).toNat) rfl
      have HNX := Lib.hid hnx
      clear hnx
      go_wp2_with fail
      refine (wireNumber_any _ (m.kind) v B _ ⟨by omega, by omega⟩ hown (Nat.le_trans (nums_take_len HF.out 0) (by decide)) (Nat.le_trans hB1 hsz)).mono ?_
      rintro e w2 ⟨v', rfl, hown', hb2, hs2⟩
      rw [← HNX.out] at hown'
      go_wp2
      go_roundw
      case rel => exact ⟨0 + 1, v', rfl, by decide, by go_num, hown', hbr.trans hb2, by omega⟩
      case measure => simp [intOf]
    · skip
      have hnx := sevens_take (l := msgNums m) (t := 1) (x := (m.micro).toNat) rfl
      have HNX := Lib.hid hnx
      clear hnx
      go_wp2_with fail
      refine (wireNumber_any _ (m.micro) v B _ ⟨by omega, by omega⟩ hown (Nat.le_trans (nums_take_len HF.out 1) (by decide)) (Nat.le_trans hB1 hsz)).mono ?_
      rintro e w2 ⟨v', rfl, hown', hb2, hs2⟩
      rw [← HNX.out] at hown'
      go_wp2
      go_roundw
      case rel => exact ⟨1 + 1, v', rfl, by decide, by go_num, hown', hbr.trans hb2, by omega⟩
      case measure => simp [intOf]
    · skip
      have hnx := sevens_take (l := msgNums m) (t := 2) (x := (m.body.rows).toNat) rfl
      have HNX := Lib.hid hnx
      clear hnx
      go_wp2_with fail
      refine (wireNumber_any _ (m.body.rows) v B _ ⟨by omega, by omega⟩ hown (Nat.le_trans (nums_take_len HF.out 2) (by decide)) (Nat.le_trans hB1 hsz)).mono ?_
      rintro e w2 ⟨v', rfl, hown', hb2, hs2⟩
      rw [← HNX.out] at hown'
      go_wp2
      go_roundw
      case rel => exact ⟨2 + 1, v', rfl, by decide, by go_num, hown', hbr.trans hb2, by omega⟩
      case measure => simp [intOf]
    · skip
      have hnx := sevens_take (l := msgNums m) (t := 3) (x := (m.body.cols).toNat) rfl
      have HNX := Lib.hid hnx
      clear hnx
      go_wp2_with fail
      refine (wireNumber_any _ (m.body.cols) v B _ ⟨by omega, by omega⟩ hown (Nat.le_trans (nums_take_len HF.out 3) (by decide)) (Nat.le_trans hB1 hsz)).mono ?_
      rintro e w2 ⟨v', rfl, hown', hb2, hs2⟩
      rw [← HNX.out] at hown'
      go_wp2
      go_roundw
      case rel => exact ⟨3 + 1, v', rfl, by decide, by go_num, hown', hbr.trans hb2, by omega⟩
      case measure => simp [intOf]
    · have hbr' : Below w1.heap.size w1 wr := by rw [HB.out]; exact hbr
      have hc4 := (hbx1.keep hbr').cell 4
      have hm2 := hm1.keep hbr'
      obtain ⟨wm, rfl⟩ : ∃ wm : World, wm = wr := ⟨_, rfl⟩
      have hbm := hbr
      have hsm : B ≤ wm.heap.size := Nat.le_trans hB1 hsz
      clear hbr hsz
      rw [show ((4 : Nat) : Int) = (4 : Int) from rfl]
      go_wp2
      go_loopw [5, 38] (fun u i wr => ∃ (t : Nat) (v : Value), v = u ∧ t ≤ n ∧ i = .int .i64 t ∧ OwnRow Form.u8 5 wr B noK v (((msgNums m).take (4 + t)).flatMap seven) ∧ Below B w1 wr ∧ wm.heap.size ≤ wr.heap.size ∧ Below B wm wr) (fun _ i _ => n - (intOf i).toNat)
      case atStart => exact ⟨0, v, rfl, Nat.zero_le _, rfl, hown, hbm, Nat.le_refl _, Below.refl _ _⟩
      case round =>
        clear hown
        obtain ⟨t, v, rfl, ht, rfl, hown, hbr, hsz, hbt⟩ := hrel
        have hbtw : Below w1.heap.size w1 wr := by rw [HB.out]; exact hbr
        by_cases hlt : t < n
        · have cx := (hm1.keep hbtw).cell t hlt
          have hz := HE.out (ix m.body.cells t) (by
            have : m.body.cells[t]? = some (ix m.body.cells t) := by unfold ix; rw [List.getElem?_eq_getElem (by rw [HL.out]; exact hlt)]; rfl
            exact List.mem_of_getElem? this)
          have hnx := sevens_take (l := msgNums m) (t := 4 + t) (nums_cell (by rw [HL.out]; exact hlt))
          obtain ⟨x, hx⟩ : ∃ x, ix m.body.cells t = x := ⟨_, rfl⟩
          rw [hx] at cx hz hnx
          have hzl := zig_lt hz
          obtain rfl := hm1.ptr (by omega)
          obtain ⟨z, hze⟩ : ∃ z, zigOf x = z := ⟨_, rfl⟩
          have HZ := Lib.hid hze
          rw [hze] at hnx hzl
          have HNX := Lib.hid hnx
          obtain ⟨z1, z2⟩ := hz
          clear hnx hx hze
          go_wp2_with fail
          refine (wireZig_any x _ ⟨by omega, by omega⟩).mono ?_
          rintro e w2 ⟨rfl, rfl⟩
          rw [HZ.out]
          go_wp2_with fail
          refine (wireNumber_any _ (z : Int) v B _ ⟨by omega, by omega⟩ hown (Nat.le_trans (nums_take_len HF.out (4 + t)) (by decide)) (Nat.le_trans hsm hsz)).mono ?_
          rintro e w3 ⟨v', rfl, hown', hb2, hs2⟩
          rw [Int.toNat_natCast, ← HNX.out] at hown'
          go_wp2
          go_roundw
          case rel => exact ⟨t + 1, v', rfl, by omega, by go_num, hown', hbr.trans hb2, by omega, hbt.trans hb2⟩
          case measure => simp [intOf]; omega
        · obtain rfl : n = t := by omega
          have hall : (msgNums m).take (4 + n) = msgNums m := List.take_of_length_le (by rw [nums_len, HL.out]; exact Nat.le_refl _)
          rw [hall] at hown
          obtain ⟨L, hLs⟩ : ∃ L, (msgNums m).flatMap seven = L := ⟨_, rfl⟩
          have hLl : L.length ≤ 3000 := by
            have := nums_take_len HF.out (4 + n)
            rw [hall, hLs] at this
            exact this
          rw [hLs] at hown
          have HLS : Hid (msgBytes m = L ++ [(prgSums L).1, (prgSums L).2]) := Lib.hid (by unfold msgBytes withSums; rw [hLs])
          obtain ⟨s1, hs1'⟩ : ∃ s1, (prgSums L).1 = s1 := ⟨_, rfl⟩
          obtain ⟨s2, hs2'⟩ : ∃ s2, (prgSums L).2 = s2 := ⟨_, rfl⟩
          have hsl := prgSums_lt L
          rw [hs1', hs2'] at HLS hsl
          obtain ⟨av, cv, bv, hv, _, hrow⟩ := hown.row (G := anyB) (fun _ _ _ => trivial) (fun _ _ => trivial)
          subst hv
          have hB2 : B ≤ wr.heap.size := Nat.le_trans hsm hsz
          have HS : Hid ((prgSums L).1 = s1 ∧ (prgSums L).2 = s2) := Lib.hid ⟨hs1', hs2'⟩
          clear hs1' hs2' hLs hall
          go_wp2_with fail
          refine (wireSums_any L av _ cv bv 0 anyB _ hrow).mono ?_
          rintro e w2 ⟨rfl, hb2⟩
          rw [HS.out.1, HS.out.2]
          have hown2 := hown.keep hb2
          have hbb : Below B w1 w2 := hbr.trans (hb2.mono hB2)
          have hsz2 := hb2.size
          obtain ⟨ob, hob⟩ : ∃ ob : Obj, ob = .cells #[.int .u8 (s1 : Int), .int .u8 (s2 : Int)] 76 := ⟨_, rfl⟩
          have hbs := u8_box (F := anyB) (w := w2.alloc (.cells #[.int .u8 (s1 : Int), .int .u8 (s2 : Int)] 76)) (b := w2.heap.size) (xs := [s1, s2]) (T := 76) (Box.new' _ _ [.int .u8 (s1 : Int), .int .u8 (s2 : Int)] _ rfl) (fun x hx => by simp at hx; omega) (by unfold maxLen; simp) trivial
          clear hb2 hrow hown
          go_wp2_with (at_builtin; go_must (refine wpList_append_flat rfl (.tmp 49) (.tmp 50) 27 rfl Form.u8 u8_plainly B noK 5 i0 (.int .u8 0) 1 Tryd.underlying27 hi hz0 hz1 hz2 rfl (by decide) (.slice av L.length cv) L rfl (hown2.keep ((Below.refl _ _).alloc (Nat.le_refl _) _)) anyB (some ⟨w2.heap.size, 0, none⟩) 2 2 w2.heap.size 0 [s1, s2] rfl hbs (by omega) (by unfold maxLen; omega) (by simp; omega) ?_))
          intro v' w' hown' hgrow hlies
          have hbn : Below B w1 w' := Below.grown (hbb.alloc (by omega) _) hgrow (by simp; omega) (fun k hk => (hown2.base_le k hk).1)
          have hfin : Below w.heap.size w w' := hb01.trans (hbn.mono (by omega))
          have HOW : Hid (OwnRow Form.u8 5 w' w.heap.size noK v' (msgBytes m)) := Lib.hid (by
            rw [HLS.out]
            exact hown'.lower hwB)
          clear hown' hgrow hlies hown2 hbs
          go_wp2
          go_ret2
          exact ⟨v', rfl, HOW.out, hfin⟩
theorem wireEncode_bad (m : MsgD) (a : Option Addr) (n k b o : Nat) (w : World) (hm : IntsAt w a n k b o m.body.cells) (hf : msgFault m ≠ 0) :
    Calls Tryd.prog 9 #[.agg #[.int .i64 m.kind, .int .i64 m.micro, .int .i64 m.body.rows, .int .i64 m.body.cols, .slice a n k]] w fun e w' => e = .returned (.tuple #[.slice none 0 0, errV (msgFault m)]) ∧ Below w.heap.size w w' := by
  have HF := Lib.hid hf
  have hft := wireFault_any m a n k b o (w.alloc (.cells #[.int .i64 m.kind, .int .i64 m.micro, .int .i64 m.body.rows, .int .i64 m.body.cols, .slice a n k] 26)) (hm.alloc _)
  clear hf
  go_enter Tryd.func9, Tryd.ntmps9
  go_wp2_with fail
  refine hft.mono ?_
  rintro e w1 ⟨rfl, hb1⟩
  rw [errV_err HF.out]
  go_wp2
  go_ret2
  exact ⟨by rw [errV_err HF.out]; rfl, (by repeat (first | fail | (with_reducible exact Below.refl _ _) | (with_reducible refine Below.al ?_ _) | (with_reducible refine Below.drN ?_ _) | (with_reducible refine Below.drew ?_) | (with_reducible refine Below.st ?_ ?_ _; rotate_left 1; (first | (dsimp only; omega) | omega | (simp; omega) | simp)) | (with_reducible refine Below.go ?_ hb1) | exact Below.refl _ _))⟩
end Go.Proofs.YtgknjikjjklaiaaDoor
