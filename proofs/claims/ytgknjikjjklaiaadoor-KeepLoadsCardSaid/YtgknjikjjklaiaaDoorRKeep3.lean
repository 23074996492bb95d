/- Contracts of the reference: matrixAt. -/
import Derived.Test.YtgknjikjjklaiaaDoorRWire3
import Derived.Test.YtgknjikjjklaiaaDoorPKeep
import Derived.Test.YtgknjikjjklaiaaDoorJMat
import Derived.Test.YtgknjikjjklaiaaDoorKeep2
import Derived.Deep.CutBlock
import Derived.Deep.DeepCutAuto
set_option linter.unusedVariables false
set_option linter.unusedSimpArgs false
set_option linter.unusedSectionVars false
set_option maxRecDepth 100000
namespace Gal
open Go Go.RowKit
/-- what matrixAt answers: the matrix and where it ends, or -1 -/
def MatIs (bs : List Nat) (at0 : Nat) (m : Mat) (y : Int) : Prop := (∃ at1 : Nat, matRd bs at0 = some (m, at1) ∧ y = at1) ∨ (matRd bs at0 = none ∧ y = -1)
theorem MatNew.far1 {B : Nat} {w w' : World} {v : Value} {m : Mat} (h : MatNew (B + 1) w v m) (hf : Far (fun y => y = B) w w') : MatNew B w' v m := by
  obtain ⟨a, n, cap, b, off, h1, h2, h3⟩ := h
  exact ⟨a, n, cap, b, off, h1, fun hh => by have := h2 hh; omega, ints_farS h3 hf (fun hh e => by have := h2 hh; have h4 : b = B := e; omega)⟩
theorem matRd_none1 {bs : List Nat} {at0 : Nat} (h : sevAt bs at0 = none) : matRd bs at0 = none := by unfold matRd; rw [h]
theorem matRd_none2 {bs : List Nat} {at0 at1 r : Nat} (h : sevAt bs at0 = some (r, at1)) (h2 : sevAt bs at1 = none) : matRd bs at0 = none := by unfold matRd; rw [h]; dsimp only; rw [h2]
theorem matRd_big {bs : List Nat} {at0 at1 at2 r c : Nat} (h : sevAt bs at0 = some (r, at1)) (h2 : sevAt bs at1 = some (c, at2)) (hb : 24 < r ∨ 12 < c) : matRd bs at0 = none := by unfold matRd; rw [h]; dsimp only; rw [h2]; exact if_pos hb
theorem matRd_cells {bs : List Nat} {at0 at1 at2 r c : Nat} (h : sevAt bs at0 = some (r, at1)) (h2 : sevAt bs at1 = some (c, at2)) (hb : ¬ (24 < r ∨ 12 < c)) (h3 : readN bs (r * c) at2 = none) : matRd bs at0 = none := by unfold matRd; rw [h]; dsimp only; rw [h2]; dsimp only; rw [if_neg hb, h3]
theorem matRd_ok {bs : List Nat} {at0 at1 at2 at3 r c : Nat} {cells : List Nat} (h : sevAt bs at0 = some (r, at1)) (h2 : sevAt bs at1 = some (c, at2)) (hb : ¬ (24 < r ∨ 12 < c)) (h3 : readN bs (r * c) at2 = some (cells, at3)) : matRd bs at0 = some (⟨r, c, cells.map zagOf⟩, at3) := by unfold matRd; rw [h]; dsimp only; rw [h2]; dsimp only; rw [if_neg hb, h3]
theorem readN_moreK {bs : List Nat} {m at0 : Nat} (n : Nat) (h : readN bs m at0 = none) : readN bs (m + n) at0 = none := by rw [readN_add, h]
end Gal
namespace Go.Proofs.YtgknjikjjklaiaaDoor
open Go.RowKit Gal
set_option maxHeartbeats 8000000
theorem refMatrixAt_any (bs : List Nat) (a : Option Addr) (n k b o at0 : Nat) (F : Nat → Prop) (w : World) (h : RowAt Form.u8 w F a n k b o bs) (hat : at0 ≤ n) :
    Calls Tryd.prog 55 #[.slice a n k, .int .i64 (at0 : Int)] w fun e w' => ∃ (v : Value) (m : Mat) (y : Int), e = .returned (.tuple #[v, .int .i64 y]) ∧ MatNew w.heap.size w' v m ∧ Below w.heap.size w w' ∧ MatIs bs at0 m y := by
  have HL := Lib.hid h.len
  obtain ⟨j0, hj, hy0, hy1, hy2⟩ := info_parts info_int'
  obtain ⟨oz, hoz⟩ : ∃ oz : Obj, Obj.cells #[.int .i64 0, .int .i64 0, .slice none 0 0] 24 = oz := ⟨_, rfl⟩
  obtain ⟨w0, hw0⟩ : ∃ w0, (w.alloc oz).alloc oz = w0 := ⟨_, rfl⟩
  have hb0 : Below w.heap.size w w0 := by rw [← hw0]; exact (by repeat (first | fail | (with_reducible exact Below.refl _ _) | (with_reducible refine Below.al ?_ _) | (with_reducible refine Below.drN ?_ _) | (with_reducible refine Below.drew ?_) | (with_reducible refine Below.st ?_ ?_ _; rotate_left 1; (first | (dsimp only; omega) | omega | (simp; omega) | simp)) | exact Below.refl _ _))
  have hR0 : Box w0 w.heap.size [.int .i64 0, .int .i64 0, .slice none 0 0] 24 := by rw [← hw0, ← hoz]; exact (Box.new' _ _ [.int .i64 0, .int .i64 0, .slice none 0 0] _ rfl).alloc _
  have hM0 : Box w0 (w.heap.size + 1) [.int .i64 0, .int .i64 0, .slice none 0 0] 24 := by rw [← hw0, ← hoz]; exact Box.new' _ _ [.int .i64 0, .int .i64 0, .slice none 0 0] _ (by simp)
  have HI := Lib.hid h
  have hr0 := h.keep hb0
  have HW0 := Lib.hid hw0
  have HOZ := Lib.hid hoz
  clear hw0 hoz h
  go_enter Tryd.func55, Tryd.ntmps55
  go_wp2_with fail
  rw [HOZ.out, HW0.out]
  refine (refSevenAt_any bs a n k b o at0 F w0 hr0 hat).mono ?_
  rintro e w1 ⟨x, y, rfl, hsev, hb1⟩
  have hb1w : Below w.heap.size w w1 := hb0.trans (hb1.mono hb0.size)
  have hR1 := hR0.keep hb1
  have hM1 := hM0.keep hb1
  have c0 := hM1.cell 0
  have f0 := hM1.thawed 0
  clear hR0 hM0 hb0 hr0 hb1
  rcases hsev with ⟨r, at1, hv1, rfl, rfl⟩ | ⟨hv1, rfl, rfl⟩
  case inr =>
    have hR2 := hR1.far (a := ⟨w.heap.size + 1, 0, none⟩) (by dsimp only; omega) (.int .i64 0)
    have hM2 : Box (w1.setCell ⟨w.heap.size + 1, 0, none⟩ (.int .i64 0)) (w.heap.size + 1) [.int .i64 0, .int .i64 0, .slice none 0 0] 24 := hM1.set 0 _
    have hb2 : Below w.heap.size w (w1.setCell ⟨w.heap.size + 1, 0, none⟩ (.int .i64 0)) := hb1w.setCell (by dsimp only; omega) _
    have hmn : MatNew (w.heap.size + 1) (w1.setCell ⟨w.heap.size + 1, 0, none⟩ (.int .i64 0)) (.agg #[.int .i64 0, .int .i64 0, .slice none 0 0]) ⟨0, 0, []⟩ := MatNew.mk (b := 0) (off := 0) (fun hh => absurd hh (Nat.lt_irrefl _)) ((RowAt.nil Form.int _ anyB).ints)
    -- the way out: (w1.setCell ⟨w.heap.size + 1, 0, none⟩ (.int .i64 0)) the world, hM2 the matrix's box, hR2 the result's, hb2 Below, 0 0 .slice none 0 0 what the box holds, -1 the place, (show MatIs bs at0 ⟨0, 0, []⟩ (-1) from Or.inr ⟨matRd_none1 hv1, rfl⟩) why; hmn: MatNew
    have k0 := Box.cell (hM2) 0
    have k1 := Box.cell (hM2) 1
    have k2 := Box.cell (hM2) 2
    have s0 := Box.cell (hR2) 0
    have s1 := Box.cell (hR2) 1
    have s2 := Box.cell (hR2) 2
    have f0 := Box.thawed (hR2) 0
    have f1 := Box.thawed (hR2) 1
    have f2 := Box.thawed (hR2) 2
    have bz := ((Box.set (hR2) 0 (.int .i64 (0))).set 1 (.int .i64 (0))).set 2 (.slice none 0 0)
    have z0 := bz.cell 0
    have z1 := bz.cell 1
    have z2 := bz.cell 2
    have hfz : Far (fun y => y = w.heap.size) ((w1.setCell ⟨w.heap.size + 1, 0, none⟩ (.int .i64 0))) (((((w1.setCell ⟨w.heap.size + 1, 0, none⟩ (.int .i64 0))).setCell ⟨w.heap.size, 0, none⟩ (.int .i64 (0))).setCell ⟨w.heap.size, 1, none⟩ (.int .i64 (0))).setCell ⟨w.heap.size, 2, none⟩ (.slice none 0 0)) := by
      have f0 : Far (fun y => y = w.heap.size) ((w1.setCell ⟨w.heap.size + 1, 0, none⟩ (.int .i64 0))) ((w1.setCell ⟨w.heap.size + 1, 0, none⟩ (.int .i64 0))) := Far.refl _ _
      have f1 := f0.st (a := ⟨w.heap.size, 0, none⟩) (fun _ => rfl) (.int .i64 (0))
      have f2 := f1.st (a := ⟨w.heap.size, 1, none⟩) (fun _ => rfl) (.int .i64 (0))
      exact f2.st (a := ⟨w.heap.size, 2, none⟩) (fun _ => rfl) (.slice none 0 0)
    have HMN := Lib.hid (hmn.far1 hfz)
    have HBZ := Lib.hid (Far.toBelow (hb2) hfz ((show Below w.heap.size w ((w1.setCell ⟨w.heap.size + 1, 0, none⟩ (.int .i64 0))) from hb2).size) (fun k hk => by have h2 : k = w.heap.size := hk; omega))
    have HWHY := Lib.hid ((show MatIs bs at0 ⟨0, 0, []⟩ (-1) from Or.inr ⟨matRd_none1 hv1, rfl⟩))
    clear hfz bz hmn
    try have hmul := HMUL.out
    go_wp2
    refine bodyPost_ret (v := .tuple #[.agg #[.int .i64 (0), .int .i64 (0), .slice none 0 0], .int .i64 (-1)]) (by simp [results, Tryd.results55, go_sem, z0, z1, z2]) rfl ⟨_, _, -1, rfl, HMN.out, HBZ.out, HWHY.out⟩
  obtain ⟨_, _, hat1⟩ := sevAt_end hv1
  rw [HL.out] at hat1
  have hr63 := sevAt_lt hv1
  have HV1 := Lib.hid hv1
  obtain ⟨w2, hw2⟩ : ∃ w2, w1.setCell ⟨w.heap.size + 1, 0, none⟩ (.int .i64 (r : Int)) = w2 := ⟨_, rfl⟩
  have hR2 : Box w2 w.heap.size [.int .i64 0, .int .i64 0, .slice none 0 0] 24 := by rw [← hw2]; exact hR1.far (a := ⟨w.heap.size + 1, 0, none⟩) (by dsimp only; omega) _
  have hM2 : Box w2 (w.heap.size + 1) [.int .i64 (r : Int), .int .i64 0, .slice none 0 0] 24 := by rw [← hw2]; exact hM1.set 0 _
  have hb2 : Below w.heap.size w w2 := by rw [← hw2]; exact hb1w.setCell (by dsimp only; omega) _
  have HW2 := Lib.hid hw2
  have p1 : ((at1 : Int) ≥ 0) = True := eq_true (by omega)
  clear hw2 hR1 hM1 hb1w hv1
  go_wp2_with fail
  rw [HW2.out]
  refine (refSevenAt_any bs a n k b o at1 F w2 (HI.out.keep hb2) hat1).mono ?_
  rintro e w3 ⟨x, y, rfl, hsev, hb3⟩
  have hb3w : Below w.heap.size w w3 := hb2.trans (hb3.mono hb2.size)
  have hR3 := hR2.keep hb3
  have hM3 := hM2.keep hb3
  have c1 := hM3.cell 1
  have f1 := hM3.thawed 1
  clear hR2 hM2 hb2 hb3 c0 f0 p1
  rcases hsev with ⟨c, at2, hv2, rfl, rfl⟩ | ⟨hv2, rfl, rfl⟩
  case inr =>
    have hR4 := hR3.far (a := ⟨w.heap.size + 1, 1, none⟩) (by dsimp only; omega) (.int .i64 0)
    have hM4 : Box (w3.setCell ⟨w.heap.size + 1, 1, none⟩ (.int .i64 0)) (w.heap.size + 1) [.int .i64 (r : Int), .int .i64 0, .slice none 0 0] 24 := hM3.set 1 _
    have hb4 : Below w.heap.size w (w3.setCell ⟨w.heap.size + 1, 1, none⟩ (.int .i64 0)) := hb3w.setCell (by dsimp only; omega) _
    have hmn : MatNew (w.heap.size + 1) (w3.setCell ⟨w.heap.size + 1, 1, none⟩ (.int .i64 0)) (.agg #[.int .i64 (r : Int), .int .i64 0, .slice none 0 0]) ⟨r, 0, []⟩ := MatNew.mk (b := 0) (off := 0) (fun hh => absurd hh (Nat.lt_irrefl _)) ((RowAt.nil Form.int _ anyB).ints)
    -- the way out: (w3.setCell ⟨w.heap.size + 1, 1, none⟩ (.int .i64 0)) the world, hM4 the matrix's box, hR4 the result's, hb4 Below, (r : Int) 0 .slice none 0 0 what the box holds, -1 the place, (show MatIs bs at0 ⟨r, 0, []⟩ (-1) from Or.inr ⟨matRd_none2 HV1.out hv2, rfl⟩) why; hmn: MatNew
    have k0 := Box.cell (hM4) 0
    have k1 := Box.cell (hM4) 1
    have k2 := Box.cell (hM4) 2
    have s0 := Box.cell (hR4) 0
    have s1 := Box.cell (hR4) 1
    have s2 := Box.cell (hR4) 2
    have f0 := Box.thawed (hR4) 0
    have f1 := Box.thawed (hR4) 1
    have f2 := Box.thawed (hR4) 2
    have bz := ((Box.set (hR4) 0 (.int .i64 ((r : Int)))).set 1 (.int .i64 (0))).set 2 (.slice none 0 0)
    have z0 := bz.cell 0
    have z1 := bz.cell 1
    have z2 := bz.cell 2
    have hfz : Far (fun y => y = w.heap.size) ((w3.setCell ⟨w.heap.size + 1, 1, none⟩ (.int .i64 0))) (((((w3.setCell ⟨w.heap.size + 1, 1, none⟩ (.int .i64 0))).setCell ⟨w.heap.size, 0, none⟩ (.int .i64 ((r : Int)))).setCell ⟨w.heap.size, 1, none⟩ (.int .i64 (0))).setCell ⟨w.heap.size, 2, none⟩ (.slice none 0 0)) := by
      have f0 : Far (fun y => y = w.heap.size) ((w3.setCell ⟨w.heap.size + 1, 1, none⟩ (.int .i64 0))) ((w3.setCell ⟨w.heap.size + 1, 1, none⟩ (.int .i64 0))) := Far.refl _ _
      have f1 := f0.st (a := ⟨w.heap.size, 0, none⟩) (fun _ => rfl) (.int .i64 ((r : Int)))
      have f2 := f1.st (a := ⟨w.heap.size, 1, none⟩) (fun _ => rfl) (.int .i64 (0))
      exact f2.st (a := ⟨w.heap.size, 2, none⟩) (fun _ => rfl) (.slice none 0 0)
    have HMN := Lib.hid (hmn.far1 hfz)
    have HBZ := Lib.hid (Far.toBelow (hb4) hfz ((show Below w.heap.size w ((w3.setCell ⟨w.heap.size + 1, 1, none⟩ (.int .i64 0))) from hb4).size) (fun k hk => by have h2 : k = w.heap.size := hk; omega))
    have HWHY := Lib.hid ((show MatIs bs at0 ⟨r, 0, []⟩ (-1) from Or.inr ⟨matRd_none2 HV1.out hv2, rfl⟩))
    clear hfz bz hmn
    try have hmul := HMUL.out
    go_wp2
    refine bodyPost_ret (v := .tuple #[.agg #[.int .i64 ((r : Int)), .int .i64 (0), .slice none 0 0], .int .i64 (-1)]) (by simp [results, Tryd.results55, go_sem, z0, z1, z2]) rfl ⟨_, _, -1, rfl, HMN.out, HBZ.out, HWHY.out⟩
  obtain ⟨_, _, hat2⟩ := sevAt_end hv2
  rw [HL.out] at hat2
  have hc63 := sevAt_lt hv2
  have HV2 := Lib.hid hv2
  obtain ⟨w4, hw4⟩ : ∃ w4, w3.setCell ⟨w.heap.size + 1, 1, none⟩ (.int .i64 (c : Int)) = w4 := ⟨_, rfl⟩
  have hR4 : Box w4 w.heap.size [.int .i64 0, .int .i64 0, .slice none 0 0] 24 := by rw [← hw4]; exact hR3.far (a := ⟨w.heap.size + 1, 1, none⟩) (by dsimp only; omega) _
  have hM4 : Box w4 (w.heap.size + 1) [.int .i64 (r : Int), .int .i64 (c : Int), .slice none 0 0] 24 := by rw [← hw4]; exact hM3.set 1 _
  have hb4 : Below w.heap.size w w4 := by rw [← hw4]; exact hb3w.setCell (by dsimp only; omega) _
  have HW4 := Lib.hid hw4
  have p2 : ((at2 : Int) < 0) = False := eq_false (by omega)
  clear hw4 hR3 hM3 hb3w hv2
  go_upto_region 5 with (fail)
  rw [HW4.out]
  have m0 := hM4.cell 0
  have m1 := hM4.cell 1
  by_cases hbig : 24 < r ∨ 12 < c
  · have hmn : MatNew (w.heap.size + 1) w4 (.agg #[.int .i64 (r : Int), .int .i64 (c : Int), .slice none 0 0]) ⟨r, c, []⟩ := MatNew.mk (b := 0) (off := 0) (fun hh => absurd hh (Nat.lt_irrefl _)) ((RowAt.nil Form.int _ anyB).ints)
    have HNB := Lib.hid hbig
    by_cases hb1 : 24 < r
    · have e1 : ((r : Int) > 24) = True := eq_true (by omega)
      clear hbig
      -- the way out: w4 the world, hM4 the matrix's box, hR4 the result's, hb4 Below, (r : Int) (c : Int) .slice none 0 0 what the box holds, -1 the place, (show MatIs bs at0 ⟨r, c, []⟩ (-1) from Or.inr ⟨matRd_big HV1.out HV2.out HNB.out, rfl⟩) why; hmn: MatNew
      have k0 := Box.cell (hM4) 0
      have k1 := Box.cell (hM4) 1
      have k2 := Box.cell (hM4) 2
      have s0 := Box.cell (hR4) 0
      have s1 := Box.cell (hR4) 1
      have s2 := Box.cell (hR4) 2
      have f0 := Box.thawed (hR4) 0
      have f1 := Box.thawed (hR4) 1
      have f2 := Box.thawed (hR4) 2
      have bz := ((Box.set (hR4) 0 (.int .i64 ((r : Int)))).set 1 (.int .i64 ((c : Int)))).set 2 (.slice none 0 0)
      have z0 := bz.cell 0
      have z1 := bz.cell 1
      have z2 := bz.cell 2
      have hfz : Far (fun y => y = w.heap.size) (w4) ((((w4).setCell ⟨w.heap.size, 0, none⟩ (.int .i64 ((r : Int)))).setCell ⟨w.heap.size, 1, none⟩ (.int .i64 ((c : Int)))).setCell ⟨w.heap.size, 2, none⟩ (.slice none 0 0)) := by
        have f0 : Far (fun y => y = w.heap.size) (w4) (w4) := Far.refl _ _
        have f1 := f0.st (a := ⟨w.heap.size, 0, none⟩) (fun _ => rfl) (.int .i64 ((r : Int)))
        have f2 := f1.st (a := ⟨w.heap.size, 1, none⟩) (fun _ => rfl) (.int .i64 ((c : Int)))
        exact f2.st (a := ⟨w.heap.size, 2, none⟩) (fun _ => rfl) (.slice none 0 0)
      have HMN := Lib.hid (hmn.far1 hfz)
      have HBZ := Lib.hid (Far.toBelow (hb4) hfz ((show Below w.heap.size w (w4) from hb4).size) (fun k hk => by have h2 : k = w.heap.size := hk; omega))
      have HWHY := Lib.hid ((show MatIs bs at0 ⟨r, c, []⟩ (-1) from Or.inr ⟨matRd_big HV1.out HV2.out HNB.out, rfl⟩))
      clear hfz bz hmn
      try have hmul := HMUL.out
      go_wp2
      refine bodyPost_ret (v := .tuple #[.agg #[.int .i64 ((r : Int)), .int .i64 ((c : Int)), .slice none 0 0], .int .i64 (-1)]) (by simp [results, Tryd.results55, go_sem, z0, z1, z2]) rfl ⟨_, _, -1, rfl, HMN.out, HBZ.out, HWHY.out⟩
    · have e1 : ((r : Int) > 24) = False := eq_false (by omega)
      have e2 : ((c : Int) > 12) = True := eq_true (by omega)
      clear hbig
      -- the way out: w4 the world, hM4 the matrix's box, hR4 the result's, hb4 Below, (r : Int) (c : Int) .slice none 0 0 what the box holds, -1 the place, (show MatIs bs at0 ⟨r, c, []⟩ (-1) from Or.inr ⟨matRd_big HV1.out HV2.out HNB.out, rfl⟩) why; hmn: MatNew
      have k0 := Box.cell (hM4) 0
      have k1 := Box.cell (hM4) 1
      have k2 := Box.cell (hM4) 2
      have s0 := Box.cell (hR4) 0
      have s1 := Box.cell (hR4) 1
      have s2 := Box.cell (hR4) 2
      have f0 := Box.thawed (hR4) 0
      have f1 := Box.thawed (hR4) 1
      have f2 := Box.thawed (hR4) 2
      have bz := ((Box.set (hR4) 0 (.int .i64 ((r : Int)))).set 1 (.int .i64 ((c : Int)))).set 2 (.slice none 0 0)
      have z0 := bz.cell 0
      have z1 := bz.cell 1
      have z2 := bz.cell 2
      have hfz : Far (fun y => y = w.heap.size) (w4) ((((w4).setCell ⟨w.heap.size, 0, none⟩ (.int .i64 ((r : Int)))).setCell ⟨w.heap.size, 1, none⟩ (.int .i64 ((c : Int)))).setCell ⟨w.heap.size, 2, none⟩ (.slice none 0 0)) := by
        have f0 : Far (fun y => y = w.heap.size) (w4) (w4) := Far.refl _ _
        have f1 := f0.st (a := ⟨w.heap.size, 0, none⟩) (fun _ => rfl) (.int .i64 ((r : Int)))
        have f2 := f1.st (a := ⟨w.heap.size, 1, none⟩) (fun _ => rfl) (.int .i64 ((c : Int)))
        exact f2.st (a := ⟨w.heap.size, 2, none⟩) (fun _ => rfl) (.slice none 0 0)
      have HMN := Lib.hid (hmn.far1 hfz)
      have HBZ := Lib.hid (Far.toBelow (hb4) hfz ((show Below w.heap.size w (w4) from hb4).size) (fun k hk => by have h2 : k = w.heap.size := hk; omega))
      have HWHY := Lib.hid ((show MatIs bs at0 ⟨r, c, []⟩ (-1) from Or.inr ⟨matRd_big HV1.out HV2.out HNB.out, rfl⟩))
      clear hfz bz hmn
      try have hmul := HMUL.out
      go_wp2
      refine bodyPost_ret (v := .tuple #[.agg #[.int .i64 ((r : Int)), .int .i64 ((c : Int)), .slice none 0 0], .int .i64 (-1)]) (by simp [results, Tryd.results55, go_sem, z0, z1, z2]) rfl ⟨_, _, -1, rfl, HMN.out, HBZ.out, HWHY.out⟩
  have e1 : ((r : Int) > 24) = False := eq_false (by omega)
  have e2 : ((c : Int) > 12) = False := eq_false (by omega)
  obtain ⟨P, hP⟩ : ∃ P, r * c = P := ⟨_, rfl⟩
  have hPI : (r : Int) * (c : Int) = (P : Int) := by rw [← hP]; push_cast; rfl
  have hPb : P ≤ 288 := by
    have h1 : r * c ≤ 24 * 12 := Nat.mul_le_mul (by omega) (by omega)
    omega
  have hmul : wrap64 ((r : Int) * (c : Int)) = (P : Int) := by rw [hPI]; unfold wrap64; omega
  have HMUL := Lib.hid hmul
  have HNB := Lib.hid hbig
  have HP := Lib.hid hP
  clear hbig hP hPI hmul
  go_wp2_with fail
  go_loopw [1, 7] (fun u i wr => ∃ (t at7 : Nat) (vs : Value) (cells : List Nat), t ≤ P ∧ i = .int .i64 t ∧ u = .int .i64 at7 ∧ at7 ≤ n ∧ cells.length = t ∧ Hid (readN bs t at2 = some (cells, at7)) ∧ Box wr (w.heap.size + 1) [.int .i64 (r : Int), .int .i64 (c : Int), vs] 24 ∧ OwnRow Form.int 3 wr (w.heap.size + 1 + 1) noK vs (cells.map zagOf) ∧ Box wr w.heap.size [.int .i64 0, .int .i64 0, .slice none 0 0] 24 ∧ Below w.heap.size w wr) (fun _ i _ => P - (intOf i).toNat)
  case atStart => exact ⟨0, at2, _, [], Nat.zero_le _, rfl, rfl, hat2, rfl, Lib.hid rfl, hM4, OwnRow.nil _ _ _ _ _, hR4, hb4⟩
  case round =>
    clear hM4 hR4 hb4 m0 m1 e1 e2 c1 f1 p2
    obtain ⟨t, at7, vs, cells, ht, rfl, rfl, hat7, hcl, HRN, hMr, hown, hRr, hbr⟩ := hrel
    have m0 := hMr.cell 0
    have m1 := hMr.cell 1
    have hrz := hMr.lt
    by_cases hlt : t < P
    · have g1 : ((t : Int) < (P : Int)) = True := eq_true (Int.ofNat_lt.2 hlt)
      have hmul := HMUL.out
      go_wp2_with fail
      refine (refSevenAt_any bs a n k b o at7 F wr (HI.out.keep hbr) hat7).mono ?_
      rintro e w5 ⟨x, y, rfl, hsev, hb5⟩
      have hb5w : Below w.heap.size w w5 := hbr.trans (hb5.mono hbr.size)
      have hM5 := hMr.keep hb5
      have hR5 := hRr.keep hb5
      have hown5 := hown.keep hb5
      have hM5z := hM5.lt
      clear hMr hRr hown hbr hb5 m0 m1 hmul hrz
      rcases hsev with ⟨v, at8, hv, rfl, rfl⟩ | ⟨hv, rfl, rfl⟩
      · obtain ⟨_, _, hat8⟩ := sevAt_end hv
        rw [HL.out] at hat8
        have hv63 := sevAt_lt hv
        have HC8 : Hid (readN bs (t + 1) at2 = some (cells ++ [v], at8)) := Lib.hid (by rw [readN_add, HRN.out]; simp [readN, hv])
        have HCL : Hid ((cells.map zagOf).length = t) := Lib.hid (by rw [List.length_map, hcl])
        have c2 := hM5.cell 2
        have q1 : ((at8 : Int) < 0) = False := eq_false (by omega)
        obtain ⟨q, hq⟩ : ∃ q, v / 2 = q := ⟨_, rfl⟩
        have e2 : (v : Int) / 2 = (q : Int) := by omega
        clear hv HRN g1
        by_cases hodd : v % 2 = 1
        · have e3 : ((v : Int) % 2 == 1) = true := by rw [beq_iff_eq]; omega
          have HZ : Hid (zagOf v = -(q : Int) - 1) := Lib.hid (by unfold zagOf; rw [if_pos hodd, hq])
          have hq2 : (q : Int) ≤ 4611686018427387904 := by omega
          clear hodd hq hv63
          have hbo5 := hown5.base_le
          go_wp2_with (at_builtin; go_must (refine wpList_push rfl (.tmp 67) (.tmp 69) 22 rfl Form.int (w.heap.size + 1 + 1) noK 3 j0 (.int .i64 0) 8 Tryd.underlying22 hj hy0 hy1 hy2 rfl (by decide) vs (cells.map zagOf) rfl (hown5.keep ((Below.refl _ _).alloc (Nat.le_refl _) _)) w5.heap.size 1 [.int .i64 (-(q : Int) - 1)] 3 (-(q : Int) - 1) rfl (Box.new _ _ _) rfl (by rw [HCL.out]; omega) (by rw [HCL.out]; unfold maxLen; omega) (by simp; omega) _ rfl ?_))
          intro g cap wG hownG hgrow hlies hgs
          have hBG := Box.grown (hM5.alloc _) hgrow (fun e => by have := (hbo5 _ e.symm).1; omega)
          have hRG := Box.grown (hR5.alloc _) hgrow (fun e => by have := (hbo5 _ e.symm).1; omega)
          have hbG : Below w.heap.size w wG := Below.grown (show Below w.heap.size w _ from (by repeat (first | fail | (with_reducible exact Below.refl _ _) | (with_reducible exact hb5w) | (with_reducible refine Below.al ?_ _) | (with_reducible refine Below.drN ?_ _) | (with_reducible refine Below.drew ?_) | (with_reducible refine Below.st ?_ ?_ _; rotate_left 1; (first | (dsimp only; omega) | omega | (simp; omega) | simp)) | exact Below.refl _ _ | exact hb5w))) hgrow (by have := hb5w.size; simp; omega) (fun k hk => by have := (hbo5 k hk).1; omega)
          have cG := hBG.cell 2
          have fG := hBG.thawed 2
          have hgB := (hownG.base_le g rfl).1
          try rw [HCL.out] at hownG
          have hBF : Box (wG.setCell ⟨w.heap.size + 1, 2, none⟩ (.slice (some ⟨g, 0, none⟩) (t + 1) cap)) (w.heap.size + 1) [.int .i64 (r : Int), .int .i64 (c : Int), .slice (some ⟨g, 0, none⟩) (t + 1) cap] 24 := hBG.set 2 _
          have hRF : Box (wG.setCell ⟨w.heap.size + 1, 2, none⟩ (.slice (some ⟨g, 0, none⟩) (t + 1) cap)) w.heap.size [.int .i64 0, .int .i64 0, .slice none 0 0] 24 := Box.far hRG (by dsimp only; omega) _
          have hownF : OwnRow Form.int 3 (wG.setCell ⟨w.heap.size + 1, 2, none⟩ (.slice (some ⟨g, 0, none⟩) (t + 1) cap)) (w.heap.size + 1 + 1) noK (.slice (some ⟨g, 0, none⟩) (t + 1) cap) ((cells ++ [v]).map zagOf) := by
            rw [List.map_append, List.map_cons, List.map_nil, HZ.out]
            exact hownG.set (fun e => by simp [Value.ownBlock] at e; omega) (fun hh => hh.elim) _
          have hbF : Below w.heap.size w (wG.setCell ⟨w.heap.size + 1, 2, none⟩ (.slice (some ⟨g, 0, none⟩) (t + 1) cap)) := hbG.setCell (by dsimp only; omega) _
          have HALL := Lib.hid (And.intro hBF (And.intro hownF (And.intro hRF hbF)))
          have HGT : Hid ((cells.map zagOf).length + 1 = t + 1) := Lib.hid (by rw [HCL.out])
          clear hBF hownF hRF hbF hgB hownG hgrow hlies hgs hBG hRG hbG hM5 hR5 hown5 hb5w hbo5 hM5z c2
          try rw [HGT.out]
          go_wp2
          go_roundw
          case rel => exact ⟨t + 1, at8, _, cells ++ [v], by omega, by go_num, rfl, hat8, by rw [List.length_append, hcl]; rfl, HC8, HALL.out.1, HALL.out.2.1, HALL.out.2.2.1, HALL.out.2.2.2⟩
          case measure => simp [intOf]; omega
        · have e3 : ((v : Int) % 2 == 1) = false := by rw [beq_eq_false_iff_ne]; omega
          have HZ : Hid (zagOf v = (q : Int)) := Lib.hid (by unfold zagOf; rw [if_neg hodd, hq])
          have hq2 : (q : Int) ≤ 4611686018427387904 := by omega
          clear hodd hq hv63
          have hbo5 := hown5.base_le
          go_wp2_with (at_builtin; go_must (refine wpList_push rfl (.tmp 67) (.tmp 69) 22 rfl Form.int (w.heap.size + 1 + 1) noK 3 j0 (.int .i64 0) 8 Tryd.underlying22 hj hy0 hy1 hy2 rfl (by decide) vs (cells.map zagOf) rfl (hown5.keep ((Below.refl _ _).alloc (Nat.le_refl _) _)) w5.heap.size 1 [.int .i64 ((q : Int))] 3 ((q : Int)) rfl (Box.new _ _ _) rfl (by rw [HCL.out]; omega) (by rw [HCL.out]; unfold maxLen; omega) (by simp; omega) _ rfl ?_))
          intro g cap wG hownG hgrow hlies hgs
          have hBG := Box.grown (hM5.alloc _) hgrow (fun e => by have := (hbo5 _ e.symm).1; omega)
          have hRG := Box.grown (hR5.alloc _) hgrow (fun e => by have := (hbo5 _ e.symm).1; omega)
          have hbG : Below w.heap.size w wG := Below.grown (show Below w.heap.size w _ from (by repeat (first | fail | (with_reducible exact Below.refl _ _) | (with_reducible exact hb5w) | (with_reducible refine Below.al ?_ _) | (with_reducible refine Below.drN ?_ _) | (with_reducible refine Below.drew ?_) | (with_reducible refine Below.st ?_ ?_ _; rotate_left 1; (first | (dsimp only; omega) | omega | (simp; omega) | simp)) | exact Below.refl _ _ | exact hb5w))) hgrow (by have := hb5w.size; simp; omega) (fun k hk => by have := (hbo5 k hk).1; omega)
          have cG := hBG.cell 2
          have fG := hBG.thawed 2
          have hgB := (hownG.base_le g rfl).1
          try rw [HCL.out] at hownG
          have hBF : Box (wG.setCell ⟨w.heap.size + 1, 2, none⟩ (.slice (some ⟨g, 0, none⟩) (t + 1) cap)) (w.heap.size + 1) [.int .i64 (r : Int), .int .i64 (c : Int), .slice (some ⟨g, 0, none⟩) (t + 1) cap] 24 := hBG.set 2 _
          have hRF : Box (wG.setCell ⟨w.heap.size + 1, 2, none⟩ (.slice (some ⟨g, 0, none⟩) (t + 1) cap)) w.heap.size [.int .i64 0, .int .i64 0, .slice none 0 0] 24 := Box.far hRG (by dsimp only; omega) _
          have hownF : OwnRow Form.int 3 (wG.setCell ⟨w.heap.size + 1, 2, none⟩ (.slice (some ⟨g, 0, none⟩) (t + 1) cap)) (w.heap.size + 1 + 1) noK (.slice (some ⟨g, 0, none⟩) (t + 1) cap) ((cells ++ [v]).map zagOf) := by
            rw [List.map_append, List.map_cons, List.map_nil, HZ.out]
            exact hownG.set (fun e => by simp [Value.ownBlock] at e; omega) (fun hh => hh.elim) _
          have hbF : Below w.heap.size w (wG.setCell ⟨w.heap.size + 1, 2, none⟩ (.slice (some ⟨g, 0, none⟩) (t + 1) cap)) := hbG.setCell (by dsimp only; omega) _
          have HALL := Lib.hid (And.intro hBF (And.intro hownF (And.intro hRF hbF)))
          have HGT : Hid ((cells.map zagOf).length + 1 = t + 1) := Lib.hid (by rw [HCL.out])
          clear hBF hownF hRF hbF hgB hownG hgrow hlies hgs hBG hRG hbG hM5 hR5 hown5 hb5w hbo5 hM5z c2
          try rw [HGT.out]
          go_wp2
          go_roundw
          case rel => exact ⟨t + 1, at8, _, cells ++ [v], by omega, by go_num, rfl, hat8, by rw [List.length_append, hcl]; rfl, HC8, HALL.out.1, HALL.out.2.1, HALL.out.2.2.1, HALL.out.2.2.2⟩
          case measure => simp [intOf]; omega
      · have hno : matRd bs at0 = none := matRd_cells HV1.out HV2.out HNB.out (by
          rw [HP.out, show P = (t + 1) + (P - (t + 1)) by omega]
          refine readN_moreK _ ?_
          rw [readN_add, HRN.out]
          simp [readN, hv])
        have hml : (cells.map zagOf).length = t := by rw [List.length_map, hcl]
        obtain ⟨av, cv, bv, hvs, hbv, hrw⟩ := hown5.row (G := anyB) (fun _ _ _ => trivial) (fun _ _ => trivial)
        rw [hml] at hvs hrw hbv
        subst hvs
        have hmn : MatNew (w.heap.size + 1) w5 (.agg #[.int .i64 (r : Int), .int .i64 (c : Int), .slice av t cv]) ⟨r, c, cells.map zagOf⟩ := MatNew.mk (b := bv) (off := 0) (fun hh => by have := hbv hh; omega) hrw.ints
        clear hown5 hrw hv g1
        -- the way out: w5 the world, hM5 the matrix's box, hR5 the result's, hb5w Below, (r : Int) (c : Int) .slice av t cv what the box holds, -1 the place, (show MatIs bs at0 ⟨r, c, cells.map zagOf⟩ (-1) from Or.inr ⟨hno, rfl⟩) why; hmn: MatNew
        have k0 := Box.cell (hM5) 0
        have k1 := Box.cell (hM5) 1
        have k2 := Box.cell (hM5) 2
        have s0 := Box.cell (hR5) 0
        have s1 := Box.cell (hR5) 1
        have s2 := Box.cell (hR5) 2
        have f0 := Box.thawed (hR5) 0
        have f1 := Box.thawed (hR5) 1
        have f2 := Box.thawed (hR5) 2
        have bz := ((Box.set (hR5) 0 (.int .i64 ((r : Int)))).set 1 (.int .i64 ((c : Int)))).set 2 (.slice av t cv)
        have z0 := bz.cell 0
        have z1 := bz.cell 1
        have z2 := bz.cell 2
        have hfz : Far (fun y => y = w.heap.size) (w5) ((((w5).setCell ⟨w.heap.size, 0, none⟩ (.int .i64 ((r : Int)))).setCell ⟨w.heap.size, 1, none⟩ (.int .i64 ((c : Int)))).setCell ⟨w.heap.size, 2, none⟩ (.slice av t cv)) := by
          have f0 : Far (fun y => y = w.heap.size) (w5) (w5) := Far.refl _ _
          have f1 := f0.st (a := ⟨w.heap.size, 0, none⟩) (fun _ => rfl) (.int .i64 ((r : Int)))
          have f2 := f1.st (a := ⟨w.heap.size, 1, none⟩) (fun _ => rfl) (.int .i64 ((c : Int)))
          exact f2.st (a := ⟨w.heap.size, 2, none⟩) (fun _ => rfl) (.slice av t cv)
        have HMN := Lib.hid (hmn.far1 hfz)
        have HBZ := Lib.hid (Far.toBelow (hb5w) hfz ((show Below w.heap.size w (w5) from hb5w).size) (fun k hk => by have h2 : k = w.heap.size := hk; omega))
        have HWHY := Lib.hid ((show MatIs bs at0 ⟨r, c, cells.map zagOf⟩ (-1) from Or.inr ⟨hno, rfl⟩))
        clear hfz bz hmn
        try have hmul := HMUL.out
        go_wp2
        refine bodyPost_ret (v := .tuple #[.agg #[.int .i64 ((r : Int)), .int .i64 ((c : Int)), .slice av t cv], .int .i64 (-1)]) (by simp [results, Tryd.results55, go_sem, z0, z1, z2]) rfl ⟨_, _, -1, rfl, HMN.out, HBZ.out, HWHY.out⟩
    · obtain rfl : P = t := by omega
      have hml : (cells.map zagOf).length = P := by rw [List.length_map, hcl]
      obtain ⟨av, cv, bv, hvs, hbv, hrw⟩ := hown.row (G := anyB) (fun _ _ _ => trivial) (fun _ _ => trivial)
      rw [hml] at hvs hrw hbv
      subst hvs
      have hmn : MatNew (w.heap.size + 1) wr (.agg #[.int .i64 (r : Int), .int .i64 (c : Int), .slice av P cv]) ⟨r, c, cells.map zagOf⟩ := MatNew.mk (b := bv) (off := 0) (fun hh => by have := hbv hh; omega) hrw.ints
      have hyes : matRd bs at0 = some (⟨r, c, cells.map zagOf⟩, at7) := matRd_ok HV1.out HV2.out HNB.out (by rw [HP.out]; exact HRN.out)
      clear hown hrw
      -- the way out: wr the world, hMr the matrix's box, hRr the result's, hbr Below, (r : Int) (c : Int) .slice av P cv what the box holds, (at7 : Int) the place, (show MatIs bs at0 ⟨r, c, cells.map zagOf⟩ (at7 : Int) from Or.inl ⟨at7, hyes, rfl⟩) why; hmn: MatNew
      have k0 := Box.cell (hMr) 0
      have k1 := Box.cell (hMr) 1
      have k2 := Box.cell (hMr) 2
      have s0 := Box.cell (hRr) 0
      have s1 := Box.cell (hRr) 1
      have s2 := Box.cell (hRr) 2
      have f0 := Box.thawed (hRr) 0
      have f1 := Box.thawed (hRr) 1
      have f2 := Box.thawed (hRr) 2
      have bz := ((Box.set (hRr) 0 (.int .i64 ((r : Int)))).set 1 (.int .i64 ((c : Int)))).set 2 (.slice av P cv)
      have z0 := bz.cell 0
      have z1 := bz.cell 1
      have z2 := bz.cell 2
      have hfz : Far (fun y => y = w.heap.size) (wr) ((((wr).setCell ⟨w.heap.size, 0, none⟩ (.int .i64 ((r : Int)))).setCell ⟨w.heap.size, 1, none⟩ (.int .i64 ((c : Int)))).setCell ⟨w.heap.size, 2, none⟩ (.slice av P cv)) := by
        have f0 : Far (fun y => y = w.heap.size) (wr) (wr) := Far.refl _ _
        have f1 := f0.st (a := ⟨w.heap.size, 0, none⟩) (fun _ => rfl) (.int .i64 ((r : Int)))
        have f2 := f1.st (a := ⟨w.heap.size, 1, none⟩) (fun _ => rfl) (.int .i64 ((c : Int)))
        exact f2.st (a := ⟨w.heap.size, 2, none⟩) (fun _ => rfl) (.slice av P cv)
      have HMN := Lib.hid (hmn.far1 hfz)
      have HBZ := Lib.hid (Far.toBelow (hbr) hfz ((show Below w.heap.size w (wr) from hbr).size) (fun k hk => by have h2 : k = w.heap.size := hk; omega))
      have HWHY := Lib.hid ((show MatIs bs at0 ⟨r, c, cells.map zagOf⟩ (at7 : Int) from Or.inl ⟨at7, hyes, rfl⟩))
      clear hfz bz hmn
      try have hmul := HMUL.out
      go_wp2
      refine bodyPost_ret (v := .tuple #[.agg #[.int .i64 ((r : Int)), .int .i64 ((c : Int)), .slice av P cv], .int .i64 ((at7 : Int))]) (by simp [results, Tryd.results55, go_sem, z0, z1, z2]) rfl ⟨_, _, (at7 : Int), rfl, HMN.out, HBZ.out, HWHY.out⟩
end Go.Proofs.YtgknjikjjklaiaaDoor
