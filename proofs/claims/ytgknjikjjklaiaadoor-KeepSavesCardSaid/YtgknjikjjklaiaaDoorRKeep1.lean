/- Contracts of the reference: matrixOf, SaveOf. -/
import Derived.Test.YtgknjikjjklaiaaDoorPKeep3
import Derived.Test.YtgknjikjjklaiaaDoorRWire1
import Derived.Test.YtgknjikjjklaiaaDoorRTrain1
set_option linter.unusedVariables false
set_option linter.unusedSimpArgs false
set_option linter.unusedSectionVars false
set_option maxRecDepth 100000
namespace Go.Proofs.YtgknjikjjklaiaaDoor
open Go.RowKit Gal
set_option maxHeartbeats 8000000
theorem refMatrixOf_any (m : Mat) (a : Option Addr) (n k b o : Nat) (w : World) (hm : IntsAt w a n k b o m.cells) (hf : m.fault = 0) :
    Calls Tryd.prog 51 #[.agg #[.int .i64 m.rows, .int .i64 m.cols, .slice a n k]] w fun e w' => ∃ v', e = .returned v' ∧ OwnRow Form.u8 5 w' w.heap.size noK v' ((matNums m).flatMap seven) ∧ Below w.heap.size w w' := by
  obtain ⟨⟨r0, r1⟩, ⟨q0, q1⟩, hn, hE⟩ := mat_small hf
  obtain ⟨i0, hi, hz0, hz1, hz2⟩ := info_parts info_byte
  have HL := Lib.hid hm.len
  have hlc : n ≤ 288 := by have := hm.len; omega
  have HTL : Hid (∀ t, (((matNums m).take t).flatMap seven).length ≤ 2610) := Lib.hid (matNums_take_len hf)
  have HE : Hid (∀ x ∈ m.cells, -2147483647 ≤ x ∧ x ≤ 2147483647) := Lib.hid hE
  obtain ⟨R, hR⟩ : ∃ R : Nat, m.rows.toNat = R := ⟨_, rfl⟩
  obtain ⟨C, hC⟩ : ∃ C : Nat, m.cols.toNat = C := ⟨_, rfl⟩
  have hRI : m.rows = (R : Int) := by omega
  have hCI : m.cols = (C : Int) := by omega
  have HRC : Hid (((matNums m).take (2 + 0)).flatMap seven = seven R ++ seven C) := Lib.hid (by unfold matNums; rw [hR, hC]; simp)
  rw [hRI, hCI]
  obtain ⟨om, hom⟩ : ∃ om : Obj, Obj.cells #[.int .i64 (R : Int), .int .i64 (C : Int), .slice a n k] 24 = om := ⟨_, rfl⟩
  obtain ⟨w0, hw0⟩ : ∃ w0, w.alloc om = w0 := ⟨_, rfl⟩
  have hb0 : Below w.heap.size w w0 := by rw [← hw0]; exact (by repeat (first | fail | (with_reducible exact Below.refl _ _) | (with_reducible refine Below.al ?_ _) | (with_reducible refine Below.drN ?_ _) | (with_reducible refine Below.drew ?_) | (with_reducible refine Below.st ?_ ?_ _; rotate_left 1; (first | (dsimp only; omega) | omega | (simp; omega) | simp)) | exact Below.refl _ _))
  have hM0 : Box w0 w.heap.size [.int .i64 (R : Int), .int .i64 (C : Int), .slice a n k] 24 := by rw [← hw0, ← hom]; exact Box.new' _ _ [.int .i64 (R : Int), .int .i64 (C : Int), .slice a n k] _ rfl
  have hm0 := hm.keep hb0
  have hwz := hb0.size
  have HW0 := Lib.hid hw0
  have HOM := Lib.hid hom
  have c0 := hM0.cell 0
  clear hw0 hom hE hf hn hm
  go_enter Tryd.func51, Tryd.ntmps51
  go_wp2_with fail
  rw [HOM.out, HW0.out]
  refine (refSeven_any R w0 (by omega)).mono ?_
  rintro e w1 ⟨v1, rfl, hown1, hb1⟩
  have hM1 := hM0.keep hb1
  have c1 := hM1.cell 1
  clear c0
  go_wp2_with fail
  refine (refSeven_any C w1 (by omega)).mono ?_
  rintro e w2 ⟨v2, rfl, hown2, hb2⟩
  have hb : Below w0.heap.size w0 w2 := hb1.trans (hb2.mono hb1.size)
  have hown := hown1.keep hb2
  clear hown1 c1 hb1 hb2 hM1
  have hown1 := hown2
  clear hown2
  have hlx : (seven R).length ≤ 9 := seven_9 (by omega)
  have hly : (seven C).length ≤ 9 := seven_9 (by omega)
  -- 13, 14: where the two rows lie; seven C: what is put behind; w3: the new world, w0: from where on all is new; hown, hb: the row, Below; hown1: what is put behind; hlx, hly: how long
  obtain ⟨a9, k9, b9, hv9, _, hr9⟩ := hown1.row (G := anyB) (fun _ _ _ => trivial) (fun _ _ => trivial)
  subst hv9
  go_wp2_with (at_builtin; go_must (refine wpList_append_flat rfl (.tmp 13) (.tmp 14) 27 rfl Form.u8 u8_plainly w0.heap.size noK 5 i0 (.int .u8 0) 1 Tryd.underlying27 hi hz0 hz1 hz2 rfl (by decide) _ _ rfl hown anyB a9 _ k9 b9 0 (seven C) rfl hr9 (by omega) (by unfold maxLen; omega) hb.size ?_))
  clear hown1 hr9
  intro v9 w3 hown' hgrow hlies
  have hbn : Below w0.heap.size w0 w3 := Below.grown hb hgrow hb.size (fun k hk => (hown.base_le k hk).1)
  clear hgrow hlies hown hb
  have hown := hown'
  have hb := hbn
  clear hown' hbn
  rw [← HRC.out] at hown
  clear hlx hly
  have hM3 := hM0.keep hb
  have c2 := hM3.cell 2
  go_wp2
  go_loopw [3, 5] (fun u i wr => ∃ (t : Nat) (v : Value), v = u ∧ t ≤ n ∧ i = .int .i64 t ∧ OwnRow Form.u8 5 wr w0.heap.size noK v (((matNums m).take (2 + t)).flatMap seven) ∧ Below w0.heap.size w0 wr) (fun _ i _ => n - (intOf i).toNat)
  case atStart => exact ⟨0, v9, rfl, Nat.zero_le _, rfl, hown, hb⟩
  case round =>
    clear hown hb hM3 c2
    obtain ⟨t, v, rfl, ht, rfl, hown, hb⟩ := hrel
    have hMr := hM0.keep hb
    have c2 := hMr.cell 2
    by_cases hlt : t < n
    · have cx := (hm0.keep hb).cell t hlt
      have hz := HE.out (ix m.cells t) (by
        have : m.cells[t]? = some (ix m.cells t) := by unfold ix; rw [List.getElem?_eq_getElem (by rw [HL.out]; exact hlt)]; rfl
        exact List.mem_of_getElem? this)
      have hnx := sevens_take (l := matNums m) (t := 2 + t) (matNums_cell (by rw [HL.out]; exact hlt))
      have hlx := HTL.out (2 + t)
      obtain ⟨x, hx⟩ : ∃ x, ix m.cells t = x := ⟨_, rfl⟩
      rw [hx] at cx hz hnx
      have hzl := zig_lt hz
      obtain rfl := hm0.ptr (by omega)
      obtain ⟨z, hze⟩ : ∃ z, zigOf x = z := ⟨_, rfl⟩
      obtain ⟨z1, z2⟩ := hz
      have HV : Hid ((z : Int) = if 0 ≤ x then 2 * x else -(2 * x) - 1) := Lib.hid (by
        rw [← hze]
        unfold zigOf
        by_cases h : 0 ≤ x
        · rw [if_pos h, if_pos h]; omega
        · rw [if_neg h, if_neg h]; omega)
      rw [hze] at hnx hzl
      have HNX := Lib.hid hnx
      have hly : (seven z).length ≤ 9 := seven_9 (by omega)
      clear hnx hx hze
      by_cases h : x < 0
      · have e1 : (x < 0) = True := eq_true h
        have e3 : -(2 * x) - 1 = (z : Int) := by rw [HV.out, if_neg (by omega)]
        go_wp2_with fail
        refine (refSeven_any z wr (by omega)).mono ?_
        rintro e w5 ⟨v5, rfl, hown1, hb5⟩
        replace hown := hown.keep hb5
        replace hb : Below w0.heap.size w0 w5 := hb.trans (hb5.mono hb.size)
        clear cx c2 hMr hb5
        -- 40, 41: where the two rows lie; seven z: what is put behind; w6: the new world, w0: from where on all is new; hown, hb: the row, Below; hown1: what is put behind; hlx, hly: how long
        obtain ⟨a9, k9, b9, hv9, _, hr9⟩ := hown1.row (G := anyB) (fun _ _ _ => trivial) (fun _ _ => trivial)
        subst hv9
        go_wp2_with (at_builtin; go_must (refine wpList_append_flat rfl (.tmp 40) (.tmp 41) 27 rfl Form.u8 u8_plainly w0.heap.size noK 5 i0 (.int .u8 0) 1 Tryd.underlying27 hi hz0 hz1 hz2 rfl (by decide) _ _ rfl hown anyB a9 _ k9 b9 0 (seven z) rfl hr9 (by omega) (by unfold maxLen; omega) hb.size ?_))
        clear hown1 hr9
        intro v9 w6 hown' hgrow hlies
        have hbn : Below w0.heap.size w0 w6 := Below.grown hb hgrow hb.size (fun k hk => (hown.base_le k hk).1)
        clear hgrow hlies hown hb
        have hown := hown'
        have hb := hbn
        clear hown' hbn
        rw [← HNX.out] at hown
        go_wp2
        go_roundw
        case rel => exact ⟨t + 1, v9, rfl, by omega, by go_num, hown, hb⟩
        case measure => simp [intOf]; omega
      · have e1 : (x < 0) = False := eq_false h
        have e3 : 2 * x = (z : Int) := by rw [HV.out, if_pos (by omega)]
        go_wp2_with fail
        refine (refSeven_any z wr (by omega)).mono ?_
        rintro e w5 ⟨v5, rfl, hown1, hb5⟩
        replace hown := hown.keep hb5
        replace hb : Below w0.heap.size w0 w5 := hb.trans (hb5.mono hb.size)
        clear cx c2 hMr hb5
        -- 40, 41: where the two rows lie; seven z: what is put behind; w6: the new world, w0: from where on all is new; hown, hb: the row, Below; hown1: what is put behind; hlx, hly: how long
        obtain ⟨a9, k9, b9, hv9, _, hr9⟩ := hown1.row (G := anyB) (fun _ _ _ => trivial) (fun _ _ => trivial)
        subst hv9
        go_wp2_with (at_builtin; go_must (refine wpList_append_flat rfl (.tmp 40) (.tmp 41) 27 rfl Form.u8 u8_plainly w0.heap.size noK 5 i0 (.int .u8 0) 1 Tryd.underlying27 hi hz0 hz1 hz2 rfl (by decide) _ _ rfl hown anyB a9 _ k9 b9 0 (seven z) rfl hr9 (by omega) (by unfold maxLen; omega) hb.size ?_))
        clear hown1 hr9
        intro v9 w6 hown' hgrow hlies
        have hbn : Below w0.heap.size w0 w6 := Below.grown hb hgrow hb.size (fun k hk => (hown.base_le k hk).1)
        clear hgrow hlies hown hb
        have hown := hown'
        have hb := hbn
        clear hown' hbn
        rw [← HNX.out] at hown
        go_wp2
        go_roundw
        case rel => exact ⟨t + 1, v9, rfl, by omega, by go_num, hown, hb⟩
        case measure => simp [intOf]; omega
    · obtain rfl : n = t := by omega
      have hall : (matNums m).take (2 + n) = matNums m := List.take_of_length_le (by rw [matNums_len, HL.out]; exact Nat.le_refl _)
      rw [hall] at hown
      have hfin : Below w.heap.size w wr := hb0.trans (hb.mono hwz)
      have hown9 := hown.lower hwz
      go_wp2
      go_ret
      exact ⟨v, rfl, hown9, hfin⟩
end Go.Proofs.YtgknjikjjklaiaaDoor
