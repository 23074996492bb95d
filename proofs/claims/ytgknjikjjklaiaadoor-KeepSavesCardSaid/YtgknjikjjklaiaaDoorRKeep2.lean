/- Contracts of the reference: SaveOf. -/
import Derived.Test.YtgknjikjjklaiaaDoorRKeep1
set_option linter.unusedVariables false
set_option linter.unusedSimpArgs false
set_option linter.unusedSectionVars false
set_option maxRecDepth 100000
namespace Gal
theorem save_next (N : List Lay) (V : List Grd) (k : Nat) (H : List Nat) : (((((H ++ (netNums N V k).flatMap seven) ++ seven (lx N k).kind.toNat) ++ (matNums (lx N k).W).flatMap seven) ++ (matNums (lx N k).B).flatMap seven) ++ (matNums (gx V k).W).flatMap seven) ++ (matNums (gx V k).B).flatMap seven = H ++ (netNums N V (k + 1)).flatMap seven := by
  rw [netNums, partNums]
  simp
end Gal
namespace Go.Proofs.YtgknjikjjklaiaaDoor
open Go.RowKit Gal
set_option maxHeartbeats 8000000
theorem refSaveOf_ok (s : Sta) (F G : Nat → Prop) (a0 a1 : Option Addr) (n n1 k0 k1 b0 b1 o0 o1 : Nat) (w : World) (h0 : RowAt Form.lay w F a0 n k0 b0 o0 s.N) (h1 : RowAt Form.grd w G a1 n1 k1 b1 o1 s.V) (hf : s.fault = 0) :
    Calls Tryd.prog 26 #[.agg #[.slice a0 n k0, .slice a1 n1 k1, .int .i64 s.steps]] w fun e w' => ∃ v', e = .returned v' ∧ OwnRow Form.u8 5 w' w.heap.size noK v' (staBytes s) ∧ Below w.heap.size w w' := by
  obtain ⟨i0, hi, hz0, hz1, hz2⟩ := info_parts info_byte
  obtain ⟨hn12, hst0, hst1, hlf, hvl, hvf⟩ := Sta.fault_ok hf
  have hl0 := h0.len
  have hl1 := h1.len
  obtain rfl : n1 = n := by omega
  have HPT : Hid (∀ k, k < n1 → 1 ≤ (lx s.N k).kind ∧ (lx s.N k).kind ≤ 4 ∧ ∀ j, (q4 (lx s.N k) (gx s.V k) j).fault = 0) := Lib.hid (fun k hk => st_part hf (by omega))
  have HNL : Hid (∀ k, k ≤ n1 → ((netNums s.N s.V k).flatMap seven).length ≤ 10449 * k) := Lib.hid (fun k hk => netNums_len hf k (by omega))
  have HHL := Lib.hid (headOf_len hf)
  obtain ⟨st, hst⟩ : ∃ st : Nat, s.steps.toNat = st := ⟨_, rfl⟩
  have hstI : s.steps = (st : Int) := by omega
  have HHD : Hid (headOf s = [71, 1] ++ seven st ++ seven n1) := Lib.hid (by unfold headOf; rw [hl0, hst])
  have HBY : Hid (staBytes s = withSums (headOf s ++ (netNums s.N s.V n1).flatMap seven)) := Lib.hid (by rw [staBytes_is, hl0])
  have HL1 := Lib.hid hl1
  have hn : n1 ≤ 12 := by omega
  rw [hstI]
  clear hf hlf hvl hvf hn12 hl0 hl1
  obtain ⟨os, hos⟩ : ∃ os : Obj, Obj.cells #[.slice a0 n1 k0, .slice a1 n1 k1, .int .i64 (st : Int)] 61 = os := ⟨_, rfl⟩
  obtain ⟨ob, hob⟩ : ∃ ob : Obj, Obj.cells #[.int .u8 71, .int .u8 1] 5 = ob := ⟨_, rfl⟩
  obtain ⟨w0, hw0⟩ : ∃ w0, w.alloc os = w0 := ⟨_, rfl⟩
  have hb0 : Below w.heap.size w w0 := by rw [← hw0]; exact (by repeat (first | fail | (with_reducible exact Below.refl _ _) | (with_reducible refine Below.al ?_ _) | (with_reducible refine Below.drN ?_ _) | (with_reducible refine Below.drew ?_) | (with_reducible refine Below.st ?_ ?_ _; rotate_left 1; (first | (dsimp only; omega) | omega | (simp; omega) | simp)) | exact Below.refl _ _))
  have hS0 : Box w0 w.heap.size [.slice a0 n1 k0, .slice a1 n1 k1, .int .i64 (st : Int)] 61 := by rw [← hw0, ← hos]; exact Box.new' _ _ [.slice a0 n1 k0, .slice a1 n1 k1, .int .i64 (st : Int)] _ rfl
  obtain ⟨w1, hw1⟩ : ∃ w1, w0.alloc ob = w1 := ⟨_, rfl⟩
  obtain ⟨B0, hB0⟩ : ∃ B0, w0.heap.size = B0 := ⟨_, rfl⟩
  have hA : Box w1 B0 ([71, 1].map fun (x : Nat) => Value.int .u8 (x : Int)) 5 := by rw [← hw1, ← hob]; exact Box.new' _ _ [.int .u8 71, .int .u8 1] _ hB0.symm
  have hown : OwnRow Form.u8 5 w1 w0.heap.size noK (.slice (some ⟨B0, 0, none⟩) 2 2) [71, 1] := own_bytes hA (by decide) (by omega) (by decide)
  have hb : Below w0.heap.size w0 w1 := by rw [← hw1]; exact (by repeat (first | fail | (with_reducible exact Below.refl _ _) | (with_reducible refine Below.al ?_ _) | (with_reducible refine Below.drN ?_ _) | (with_reducible refine Below.drew ?_) | (with_reducible refine Below.st ?_ ?_ _; rotate_left 1; (first | (dsimp only; omega) | omega | (simp; omega) | simp)) | exact Below.refl _ _))
  have hwz := hb0.size
  have hBI : B0 = w.heap.size + 1 := by rw [← hB0, ← hw0]; simp
  subst hBI
  have HW0 := Lib.hid hw0
  have HW1 := Lib.hid hw1
  have HOS := Lib.hid hos
  have HOB := Lib.hid hob
  have S2 := hS0.cell 2
  have SZ := hS0.lt
  clear hw0 hos hob hA hB0
  have hlx : ([71, 1] : List Nat).length ≤ 2 := by decide
  go_enter Tryd.func26, Tryd.ntmps26
  go_wp2_with fail
  rw [HOB.out, HOS.out, HW0.out, HW1.out]
  clear hw1
  have hly : (seven st).length ≤ 9 := seven_9 (by omega)
  refine (refSeven_any st w1 (by omega)).mono ?_
  rintro e w5 ⟨v5, rfl, hown1, hb5⟩
  replace hown := hown.keep hb5
  replace hb : Below w0.heap.size w0 w5 := hb.trans (hb5.mono hb.size)
  clear hb5 S2
  -- 10, 11: where the two rows lie; seven st: what is put behind; w6: the new world, w0: from where on all is new; hown, hb: the row, Below; hown1: what is put behind; hlx, hly: how long
  obtain ⟨a9, k9, b9, hv9, _, hr9⟩ := hown1.row (G := anyB) (fun _ _ _ => trivial) (fun _ _ => trivial)
  subst hv9
  go_wp2_with (at_builtin; go_must (refine wpList_append_flat rfl (.tmp 10) (.tmp 11) 27 rfl Form.u8 u8_plainly w0.heap.size noK 5 i0 (.int .u8 0) 1 Tryd.underlying27 hi hz0 hz1 hz2 rfl (by decide) _ _ rfl hown anyB a9 _ k9 b9 0 (seven st) rfl hr9 (by omega) (by unfold maxLen; omega) hb.size ?_))
  clear hown1 hr9
  intro v9 w6 hown' hgrow hlies
  have hbn : Below w0.heap.size w0 w6 := Below.grown hb hgrow hb.size (fun k hk => (hown.base_le k hk).1)
  clear hgrow hlies hown hb
  have hown := hown'
  have hb := hbn
  clear hown' hbn
  clear hly
  obtain ⟨X9, hX9⟩ : ∃ X9, [71, 1] ++ seven st = X9 := ⟨_, rfl⟩
  replace hown : OwnRow Form.u8 5 w6 w0.heap.size noK v9 ([71, 1] ++ seven st) := hown
  rw [hX9] at hown HHD
  replace hlx : X9.length ≤ 12 := by have := seven_9 (x := st) (by omega); rw [← hX9]; simp only [List.length_append, List.length_cons, List.length_nil]; omega
  clear hX9
  have hly : (seven n1).length ≤ 9 := seven_9 (by omega)
  have S0 := (hS0.keep hb).cell 0
  go_wp2_with fail
  refine (refSeven_any n1 w6 (by omega)).mono ?_
  rintro e w5 ⟨v5, rfl, hown1, hb5⟩
  replace hown := hown.keep hb5
  replace hb : Below w0.heap.size w0 w5 := hb.trans (hb5.mono hb.size)
  clear hb5 S0
  -- 17, 18: where the two rows lie; seven n1: what is put behind; w7: the new world, w0: from where on all is new; hown, hb: the row, Below; hown1: what is put behind; hlx, hly: how long
  obtain ⟨a9, k9, b9, hv9, _, hr9⟩ := hown1.row (G := anyB) (fun _ _ _ => trivial) (fun _ _ => trivial)
  subst hv9
  go_wp2_with (at_builtin; go_must (refine wpList_append_flat rfl (.tmp 17) (.tmp 18) 27 rfl Form.u8 u8_plainly w0.heap.size noK 5 i0 (.int .u8 0) 1 Tryd.underlying27 hi hz0 hz1 hz2 rfl (by decide) _ _ rfl hown anyB a9 _ k9 b9 0 (seven n1) rfl hr9 (by omega) (by unfold maxLen; omega) hb.size ?_))
  clear hown1 hr9
  intro v9 w7 hown' hgrow hlies
  have hbn : Below w0.heap.size w0 w7 := Below.grown hb hgrow hb.size (fun k hk => (hown.base_le k hk).1)
  clear hgrow hlies hown hb
  have hown := hown'
  have hb := hbn
  clear hown' hbn
  rw [← HHD.out] at hown
  clear hly hlx
  have S0 := (hS0.keep hb).cell 0
  go_wp2
  go_loopw [3, 5] (fun u i wr => ∃ (t : Nat) (v : Value), v = u ∧ t ≤ n1 ∧ i = .int .i64 t ∧ OwnRow Form.u8 5 wr w0.heap.size noK v (headOf s ++ (netNums s.N s.V t).flatMap seven) ∧ Below w0.heap.size w0 wr) (fun _ i _ => n1 - (intOf i).toNat)
  case atStart => exact ⟨0, v9, rfl, Nat.zero_le _, rfl, by simpa [netNums] using hown, hb⟩
  case round =>
    clear hown hb S0
    obtain ⟨t, v, rfl, ht, rfl, hown, hb⟩ := hrel
    have S0 := (hS0.keep hb).cell 0
    have hnl := HNL.out t ht
    have hhl := HHL.out
    by_cases hlt : t < n1
    · obtain ⟨a2, n2, k2, b2, o2, a3, n3, k3, b3, o3, c0, c1, c2, c3, c4, c5, c6, x1, x2⟩ := lay_cells h0 hlt
      obtain ⟨a4, n4, k4, b4, o4, a5, n5, k5, b5, o5, d0, d1, d2, d3, d4, d5, y1, y2⟩ := grd_cells h1 (gx_get (i := t) (by rw [HL1.out]; exact hlt))
      obtain rfl := h0.ptr (by omega)
      obtain rfl := h1.ptr (by omega)
      obtain ⟨kd0, kd1, hq4⟩ := HPT.out t hlt
      have HNX := Lib.hid (save_next s.N s.V t (headOf s))
      obtain ⟨l, hl⟩ : ∃ l, lx s.N t = l := ⟨_, rfl⟩
      obtain ⟨g, hgx⟩ : ∃ g, gx s.V t = g := ⟨_, rfl⟩
      rw [hl] at c0 c1 c2 c4 c5 x1 x2 kd0 kd1 hq4 HNX
      rw [hgx] at hq4 d0 d1 d3 d4 y1 y2 HNX
      obtain ⟨kd, hkd⟩ : ∃ kd : Nat, l.kind.toNat = kd := ⟨_, rfl⟩
      have hkI : l.kind = (kd : Int) := by omega
      rw [hkI] at c0
      rw [hkd] at HNX
      have f0 : l.W.fault = 0 := hq4 0
      have f1 : l.B.fault = 0 := hq4 1
      have f2 : g.W.fault = 0 := hq4 2
      have f3 : g.B.fault = 0 := hq4 3
      have HC := Lib.hid (And.intro c0 (And.intro c1 (And.intro c2 (And.intro c3 (And.intro c4 (And.intro c5 c6))))))
      have HD := Lib.hid (And.intro d0 (And.intro d1 (And.intro d2 (And.intro d3 (And.intro d4 d5)))))
      obtain ⟨Y1, hY1⟩ : ∃ Y1, (matNums l.W).flatMap seven = Y1 := ⟨_, rfl⟩
      obtain ⟨Y2, hY2⟩ : ∃ Y2, (matNums l.B).flatMap seven = Y2 := ⟨_, rfl⟩
      obtain ⟨Y3, hY3⟩ : ∃ Y3, (matNums g.W).flatMap seven = Y3 := ⟨_, rfl⟩
      obtain ⟨Y4, hY4⟩ : ∃ Y4, (matNums g.B).flatMap seven = Y4 := ⟨_, rfl⟩
      rw [hY1, hY2, hY3, hY4] at HNX
      have HY1 := Lib.hid hY1
      have HY2 := Lib.hid hY2
      have HY3 := Lib.hid hY3
      have HY4 := Lib.hid hY4
      clear hY1 hY2 hY3 hY4 hl hgx hq4 c0 c1 c2 c3 c4 c5 c6 d0 d1 d2 d3 d4 d5 S0
      obtain ⟨X0, hX0⟩ : ∃ X0, headOf s ++ (netNums s.N s.V t).flatMap seven = X0 := ⟨_, rfl⟩
      have hlx : X0.length ≤ 130000 := by rw [← hX0, List.length_append]; omega
      rw [hX0] at hown HNX
      clear hX0 hnl hhl
      have hbw : Below w.heap.size w wr := hb0.trans (hb.mono hwz)
      have S0 := (hS0.keep hb).cell 0
      have e0 := cell_keep' hbw HC.out.1
      have hly : (seven kd).length ≤ 9 := seven_9 (by omega)
      go_wp2_with fail
      refine (refSeven_any kd wr (by omega)).mono ?_
      rintro e w5 ⟨v5, rfl, hown1, hb5⟩
      replace hown := hown.keep hb5
      replace hb : Below w0.heap.size w0 w5 := hb.trans (hb5.mono hb.size)
      clear hb5 S0 e0 hbw
      -- 34, 35: where the two rows lie; seven kd: what is put behind; wA: the new world, w0: from where on all is new; hown, hb: the row, Below; hown1: what is put behind; hlx, hly: how long
      obtain ⟨a9, k9, b9, hv9, _, hr9⟩ := hown1.row (G := anyB) (fun _ _ _ => trivial) (fun _ _ => trivial)
      subst hv9
      go_wp2_with (at_builtin; go_must (refine wpList_append_flat rfl (.tmp 34) (.tmp 35) 27 rfl Form.u8 u8_plainly w0.heap.size noK 5 i0 (.int .u8 0) 1 Tryd.underlying27 hi hz0 hz1 hz2 rfl (by decide) _ _ rfl hown anyB a9 _ k9 b9 0 (seven kd) rfl hr9 (by omega) (by unfold maxLen; omega) hb.size ?_))
      clear hown1 hr9
      intro v9 wA hown' hgrow hlies
      have hbn : Below w0.heap.size w0 wA := Below.grown hb hgrow hb.size (fun k hk => (hown.base_le k hk).1)
      clear hgrow hlies hown hb
      have hown := hown'
      have hb := hbn
      clear hown' hbn
      obtain ⟨X1, hX1⟩ : ∃ X1, X0 ++ seven kd = X1 := ⟨_, rfl⟩
      rw [hX1] at hown
      replace hlx : X1.length ≤ 130010 := by rw [← hX1, List.length_append]; omega
      have HX1 := Lib.hid hX1
      clear hly hX1
      have hbw : Below w.heap.size w wA := hb0.trans (hb.mono hwz)
      have S0 := (hS0.keep hb).cell 0
      have e0 := cell_keep' hbw HC.out.2.1
      have e1 := cell_keep' hbw HC.out.2.2.1
      have e2 := cell_keep' hbw HC.out.2.2.2.1
      have hly : Y1.length ≤ 2610 := by rw [← HY1.out]; exact matNums_len_all f0
      have hc := refMatrixOf_any l.W a2 n2 k2 b2 o2 wA (x1.keep hbw) f0
      rw [HY1.out] at hc
      go_wp2_with fail
      refine (hc).mono ?_
      rintro e w5 ⟨v5, rfl, hown1, hb5⟩
      replace hown := hown.keep hb5
      replace hb : Below w0.heap.size w0 w5 := hb.trans (hb5.mono hb.size)
      clear hb5 S0 e0 e1 e2 hbw hc
      -- 44, 45: where the two rows lie; Y1: what is put behind; wB: the new world, w0: from where on all is new; hown, hb: the row, Below; hown1: what is put behind; hlx, hly: how long
      obtain ⟨a9, k9, b9, hv9, _, hr9⟩ := hown1.row (G := anyB) (fun _ _ _ => trivial) (fun _ _ => trivial)
      subst hv9
      go_wp2_with (at_builtin; go_must (refine wpList_append_flat rfl (.tmp 44) (.tmp 45) 27 rfl Form.u8 u8_plainly w0.heap.size noK 5 i0 (.int .u8 0) 1 Tryd.underlying27 hi hz0 hz1 hz2 rfl (by decide) _ _ rfl hown anyB a9 _ k9 b9 0 (Y1) rfl hr9 (by omega) (by unfold maxLen; omega) hb.size ?_))
      clear hown1 hr9
      intro v9 wB hown' hgrow hlies
      have hbn : Below w0.heap.size w0 wB := Below.grown hb hgrow hb.size (fun k hk => (hown.base_le k hk).1)
      clear hgrow hlies hown hb
      have hown := hown'
      have hb := hbn
      clear hown' hbn
      obtain ⟨X2, hX2⟩ : ∃ X2, X1 ++ Y1 = X2 := ⟨_, rfl⟩
      rw [hX2] at hown
      replace hlx : X2.length ≤ 140000 := by rw [← hX2, List.length_append]; omega
      have HX2 := Lib.hid hX2
      clear hly hX2
      have hbw : Below w.heap.size w wB := hb0.trans (hb.mono hwz)
      have S0 := (hS0.keep hb).cell 0
      have e0 := cell_keep' hbw HC.out.2.2.2.2.1
      have e1 := cell_keep' hbw HC.out.2.2.2.2.2.1
      have e2 := cell_keep' hbw HC.out.2.2.2.2.2.2
      have hly : Y2.length ≤ 2610 := by rw [← HY2.out]; exact matNums_len_all f1
      have hc := refMatrixOf_any l.B a3 n3 k3 b3 o3 wB (x2.keep hbw) f1
      rw [HY2.out] at hc
      go_wp2_with fail
      refine (hc).mono ?_
      rintro e w5 ⟨v5, rfl, hown1, hb5⟩
      replace hown := hown.keep hb5
      replace hb : Below w0.heap.size w0 w5 := hb.trans (hb5.mono hb.size)
      clear hb5 S0 e0 e1 e2 hbw hc
      -- 54, 55: where the two rows lie; Y2: what is put behind; wC: the new world, w0: from where on all is new; hown, hb: the row, Below; hown1: what is put behind; hlx, hly: how long
      obtain ⟨a9, k9, b9, hv9, _, hr9⟩ := hown1.row (G := anyB) (fun _ _ _ => trivial) (fun _ _ => trivial)
      subst hv9
      go_wp2_with (at_builtin; go_must (refine wpList_append_flat rfl (.tmp 54) (.tmp 55) 27 rfl Form.u8 u8_plainly w0.heap.size noK 5 i0 (.int .u8 0) 1 Tryd.underlying27 hi hz0 hz1 hz2 rfl (by decide) _ _ rfl hown anyB a9 _ k9 b9 0 (Y2) rfl hr9 (by omega) (by unfold maxLen; omega) hb.size ?_))
      clear hown1 hr9
      intro v9 wC hown' hgrow hlies
      have hbn : Below w0.heap.size w0 wC := Below.grown hb hgrow hb.size (fun k hk => (hown.base_le k hk).1)
      clear hgrow hlies hown hb
      have hown := hown'
      have hb := hbn
      clear hown' hbn
      obtain ⟨X3, hX3⟩ : ∃ X3, X2 ++ Y2 = X3 := ⟨_, rfl⟩
      rw [hX3] at hown
      replace hlx : X3.length ≤ 150000 := by rw [← hX3, List.length_append]; omega
      have HX3 := Lib.hid hX3
      clear hly hX3
      have hbw : Below w.heap.size w wC := hb0.trans (hb.mono hwz)
      have S0 := (hS0.keep hb).cell 1
      have e0 := cell_keep' hbw HD.out.1
      have e1 := cell_keep' hbw HD.out.2.1
      have e2 := cell_keep' hbw HD.out.2.2.1
      have hly : Y3.length ≤ 2610 := by rw [← HY3.out]; exact matNums_len_all f2
      have hc := refMatrixOf_any g.W a4 n4 k4 b4 o4 wC (y1.keep hbw) f2
      rw [HY3.out] at hc
      go_wp2_with fail
      refine (hc).mono ?_
      rintro e w5 ⟨v5, rfl, hown1, hb5⟩
      replace hown := hown.keep hb5
      replace hb : Below w0.heap.size w0 w5 := hb.trans (hb5.mono hb.size)
      clear hb5 S0 e0 e1 e2 hbw hc
      -- 64, 65: where the two rows lie; Y3: what is put behind; wD: the new world, w0: from where on all is new; hown, hb: the row, Below; hown1: what is put behind; hlx, hly: how long
      obtain ⟨a9, k9, b9, hv9, _, hr9⟩ := hown1.row (G := anyB) (fun _ _ _ => trivial) (fun _ _ => trivial)
      subst hv9
      go_wp2_with (at_builtin; go_must (refine wpList_append_flat rfl (.tmp 64) (.tmp 65) 27 rfl Form.u8 u8_plainly w0.heap.size noK 5 i0 (.int .u8 0) 1 Tryd.underlying27 hi hz0 hz1 hz2 rfl (by decide) _ _ rfl hown anyB a9 _ k9 b9 0 (Y3) rfl hr9 (by omega) (by unfold maxLen; omega) hb.size ?_))
      clear hown1 hr9
      intro v9 wD hown' hgrow hlies
      have hbn : Below w0.heap.size w0 wD := Below.grown hb hgrow hb.size (fun k hk => (hown.base_le k hk).1)
      clear hgrow hlies hown hb
      have hown := hown'
      have hb := hbn
      clear hown' hbn
      obtain ⟨X4, hX4⟩ : ∃ X4, X3 ++ Y3 = X4 := ⟨_, rfl⟩
      rw [hX4] at hown
      replace hlx : X4.length ≤ 160000 := by rw [← hX4, List.length_append]; omega
      have HX4 := Lib.hid hX4
      clear hly hX4
      have hbw : Below w.heap.size w wD := hb0.trans (hb.mono hwz)
      have S0 := (hS0.keep hb).cell 1
      have e0 := cell_keep' hbw HD.out.2.2.2.1
      have e1 := cell_keep' hbw HD.out.2.2.2.2.1
      have e2 := cell_keep' hbw HD.out.2.2.2.2.2
      have hly : Y4.length ≤ 2610 := by rw [← HY4.out]; exact matNums_len_all f3
      have hc := refMatrixOf_any g.B a5 n5 k5 b5 o5 wD (y2.keep hbw) f3
      rw [HY4.out] at hc
      go_wp2_with fail
      refine (hc).mono ?_
      rintro e w5 ⟨v5, rfl, hown1, hb5⟩
      replace hown := hown.keep hb5
      replace hb : Below w0.heap.size w0 w5 := hb.trans (hb5.mono hb.size)
      clear hb5 S0 e0 e1 e2 hbw hc
      -- 74, 75: where the two rows lie; Y4: what is put behind; wE: the new world, w0: from where on all is new; hown, hb: the row, Below; hown1: what is put behind; hlx, hly: how long
      obtain ⟨a9, k9, b9, hv9, _, hr9⟩ := hown1.row (G := anyB) (fun _ _ _ => trivial) (fun _ _ => trivial)
      subst hv9
      go_wp2_with (at_builtin; go_must (refine wpList_append_flat rfl (.tmp 74) (.tmp 75) 27 rfl Form.u8 u8_plainly w0.heap.size noK 5 i0 (.int .u8 0) 1 Tryd.underlying27 hi hz0 hz1 hz2 rfl (by decide) _ _ rfl hown anyB a9 _ k9 b9 0 (Y4) rfl hr9 (by omega) (by unfold maxLen; omega) hb.size ?_))
      clear hown1 hr9
      intro v9 wE hown' hgrow hlies
      have hbn : Below w0.heap.size w0 wE := Below.grown hb hgrow hb.size (fun k hk => (hown.base_le k hk).1)
      clear hgrow hlies hown hb
      have hown := hown'
      have hb := hbn
      clear hown' hbn
      obtain ⟨X5, hX5⟩ : ∃ X5, X4 ++ Y4 = X5 := ⟨_, rfl⟩
      rw [hX5] at hown
      replace hlx : X5.length ≤ 170000 := by rw [← hX5, List.length_append]; omega
      have HX5 := Lib.hid hX5
      clear hly hX5
      rw [← HX5.out, ← HX4.out, ← HX3.out, ← HX2.out, ← HX1.out, HNX.out] at hown
      go_wp2
      go_roundw
      case rel => exact ⟨t + 1, v9, rfl, by omega, by go_num, hown, hb⟩
      case measure => simp [intOf]; omega
    · obtain rfl : t = n1 := by omega
      obtain ⟨L, hL⟩ : ∃ L, headOf s ++ (netNums s.N s.V t).flatMap seven = L := ⟨_, rfl⟩
      have hlx : L.length ≤ 200000 := by rw [← hL, List.length_append]; omega
      rw [hL] at hown
      have HLS : Hid (staBytes s = L ++ [(prgSums L).1, (prgSums L).2]) := Lib.hid (by rw [HBY.out, hL]; rfl)
      obtain ⟨av, cv, bv, hv, _, hrow⟩ := hown.row (G := anyB) (fun _ _ _ => trivial) (fun _ _ => trivial)
      subst hv
      obtain ⟨S, hS⟩ : ∃ S, [(prgSums L).1, (prgSums L).2] = S := ⟨_, rfl⟩
      have hSl : S.length = 2 := by rw [← hS]; rfl
      rw [hS] at HLS
      have HS := Lib.hid hS
      clear hL hS hnl hhl
      go_wp2_with fail
      refine (refSumsOf_any L av _ cv bv 0 anyB _ hrow (by omega)).mono ?_
      rintro e w5 ⟨g, rfl, hg, hrs, hb5⟩
      rw [HS.out] at hrs
      replace hown := hown.keep hb5
      replace hb : Below w0.heap.size w0 w5 := hb.trans (hb5.mono hb.size)
      clear hrow hb5 S0
      go_wp2_with (at_builtin; go_must (refine wpList_append_flat rfl (.tmp 79) (.tmp 80) 27 rfl Form.u8 u8_plainly w0.heap.size noK 5 i0 (.int .u8 0) 1 Tryd.underlying27 hi hz0 hz1 hz2 rfl (by decide) _ L rfl hown _ (some ⟨g, 0, none⟩) 2 2 g 0 S rfl hrs (by omega) (by unfold maxLen; omega) hb.size ?_))
      intro v' w' hown' hgrow hlies
      have hbn : Below w0.heap.size w0 w' := Below.grown hb hgrow hb.size (fun k hk => (hown.base_le k hk).1)
      have hfin : Below w.heap.size w w' := hb0.trans (hbn.mono hwz)
      have HO : Hid (OwnRow Form.u8 5 w' w.heap.size noK v' (staBytes s)) := Lib.hid (by rw [HLS.out]; exact hown'.lower hwz)
      clear hown' hgrow hlies hown hrs
      go_wp2
      go_ret
      exact ⟨v', rfl, HO.out, hfin⟩
end Go.Proofs.YtgknjikjjklaiaaDoor
