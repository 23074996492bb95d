/- Contracts of package wire: Decode. -/
import Derived.Test.YtgknjikjjklaiaaDoorWire3
import Derived.Test.YtgknjikjjklaiaaDoorPWire4
import Derived.Test.YtgknjikjjklaiaaDoorOpenM
import Derived.Test.YtgknjikjjklaiaaDoorReg3
import Derived.Deep.RegionLaw
import Derived.Deep.RegionHeld3
import Derived.Test.YtgknjikjjklaiaaDoorGrow
import Derived.Laws.StructEq
import Derived.Laws.Cover3
import Derived.Deep.CutBlock
import Derived.Deep.DeepCutAuto
set_option linter.unusedVariables false
set_option linter.unusedSimpArgs false
set_option linter.unusedSectionVars false
set_option maxRecDepth 100000
namespace Go.Proofs.YtgknjikjjklaiaaDoor
open Go.RowKit Gal
set_option maxHeartbeats 4000000
theorem arr2_eq (d : Nat) (x0 x1 y0 y1 : Int) (W : World) : (Op.equalIn (d + 1 + 1) 76 (.agg #[.int .u8 x0, .int .u8 x1]) (.agg #[.int .u8 y0, .int .u8 y1])).run Tryd.prog W = .ok (x0 == y0 && x1 == y1) W := by
  have hu := Tryd.underlying76
  have hi := Tryd.underlying5
  have c0 : Tryd.prog.cellsOf 5 = 1 := by kernel_rfl
  have hs : ∀ W : World, (sizeOf 5).run Tryd.prog W = .ok 1 W := fun W => by kernel_rfl
  have hg : ∀ W : World, (isAgg 5).run Tryd.prog W = .ok false W := fun W => by kernel_rfl
  rw [Op.equalIn]
  simp only [Sem.run_bind, run_underlying hu, Result.andThen_ok, hs, Std.Legacy.Range.forIn_eq_forIn_range', Std.Legacy.Range.size, Nat.sub_zero, Nat.add_sub_cancel, Nat.div_one, List.range'_succ, List.range'_zero]
  by_cases h0 : x0 = y0 <;> by_cases h1 : x1 = y1 <;> simp [go_sem, hi, hs, hg, part, c0, h0, h1]
theorem arr2_neq (x0 x1 y0 y1 : Int) (W : World) : (binOp .neq 76 (.agg #[.int .u8 x0, .int .u8 x1]) (.agg #[.int .u8 y0, .int .u8 y1])).run Tryd.prog W = .ok (.bool (!(x0 == y0 && x1 == y1))) W := by
  rw [run_neq_struct, arr2_eq 9998]
  rfl
/-- what Decode answers -/
def DecPost (w w' : World) (bs : List Nat) (e : Ending) : Prop := ∃ (v : Value) (m : MsgD) (N err : Int), e = .returned (.tuple #[v, .int .i64 N, errV err]) ∧ MsgV w' v m ∧ Below w.heap.size w w' ∧
  ((msgRead bs = some (m, N.toNat) ∧ 0 ≤ N ∧ err = 0) ∨ (msgRead bs = none ∧ m = ⟨0, 0, ⟨0, 0, []⟩⟩ ∧ N = 0 ∧ err = 7))
theorem wireDecode_any (bs : List Nat) (a : Option Addr) (n k b o : Nat) (F : Nat → Prop) (w : World) (h : RowAt Form.u8 w F a n k b o bs) :
    Calls Tryd.prog 20 #[.slice a n k] w fun e w' => DecPost w w' bs e := by
  have HL := Lib.hid h.len
  obtain ⟨j0, hj, hy0, hy1, hy2⟩ := info_parts info_int'
  have hrow : RowAt Form.u8 w (fun c => c = b ∧ 0 < n) a n k b o bs := h.any u8_plainly (fun h0 => ⟨rfl, h0⟩)
  have hbl : 0 < n → b < w.heap.size := h.lt
  have hne : 0 < n → b ≠ w.heap.size + 1 := fun h0 => by have := hbl h0; omega
  obtain ⟨om, hom⟩ : ∃ om : Obj, Obj.cells #[.int .i64 0, .int .i64 0, .int .i64 0, .int .i64 0, .slice none 0 0] 26 = om := ⟨_, rfl⟩
  obtain ⟨or, hor⟩ : ∃ or : Obj, Obj.cells #[.slice a n k, .int .i64 0, .bool true] 91 = or := ⟨_, rfl⟩
  obtain ⟨w0, hw0⟩ : ∃ w0, (w.alloc om).alloc or = w0 := ⟨_, rfl⟩
  have hb0 : Below w.heap.size w w0 := by rw [← hw0]; exact (by repeat (first | fail | (with_reducible exact Below.refl _ _) | (with_reducible refine Below.al ?_ _) | (with_reducible refine Below.drN ?_ _) | (with_reducible refine Below.drew ?_) | (with_reducible refine Below.st ?_ ?_ _; rotate_left 1; (first | (dsimp only; omega) | omega | (simp; omega) | simp)) | exact Below.refl _ _))
  have hs0 : w0.heap.size = w.heap.size + 2 := by rw [← hw0]; simp
  have hM0 : Box w0 w.heap.size [.int .i64 0, .int .i64 0, .int .i64 0, .int .i64 0, .slice none 0 0] 26 := by rw [← hw0, ← hom]; exact (Box.new' _ _ [.int .i64 0, .int .i64 0, .int .i64 0, .int .i64 0, .slice none 0 0] _ rfl).alloc _
  have hR0 : RdAt w0 (w.heap.size + 1) a n k 0 true := by rw [← hw0, ← hor]; exact Box.new' _ _ [.slice a n k, .int .i64 0, .bool true] _ (by simp)
  have hr0 := hrow.keep hb0
  have HW0 := Lib.hid hw0
  have HOM := Lib.hid hom
  have HOR := Lib.hid hor
  clear hw0 hom hor
  go_enter Tryd.func20, Tryd.ntmps20
  go_wp2_with fail
  rw [HOM.out, HOR.out, HW0.out]
  have hz0 : (0 : Nat) ≤ n := Nat.zero_le _
  -- the number at 0: from world w0 to world w1
  refine (rdNumber_any bs a n k b o (w.heap.size + 1) 0 true (fun c => c = b ∧ 0 < n) w0 hr0 hR0 hne hz0).mono ?_
  rintro e w1 ⟨v1, at1, ok1, rfl, hR1, hf1, hl1, hn1, hv1, he1⟩
  have hr1 := (hr0).farS hf1 (fun c hc _ hh => hne hc.2 (Eq.trans (Eq.symm hc.1) hh))
  have hM1 := (hM0).farS hf1 (fun hh => by omega)
  have hb1 : Below w.heap.size w w1 := Far.toBelow hb0 hf1 (by have := hb0.size; omega) (fun c hc => by omega)
  have hs1 := hf1.size
  go_wp2_with fail
  -- the number at at1: from world w1 to world w2
  refine (rdNumber_any bs a n k b o (w.heap.size + 1) at1 ok1 (fun c => c = b ∧ 0 < n) w1 hr1 hR1 hne hn1).mono ?_
  rintro e w2 ⟨v2, at2, ok2, rfl, hR2, hf2, hl2, hn2, hv2, he2⟩
  have hr2 := (hr1).farS hf2 (fun c hc _ hh => hne hc.2 (Eq.trans (Eq.symm hc.1) hh))
  have hM2 := (hM1).farS hf2 (fun hh => by omega)
  have hb2 : Below w.heap.size w w2 := Far.toBelow hb1 hf2 (by have := hb1.size; omega) (fun c hc => by omega)
  have hs2 := hf2.size
  obtain ⟨MB, hMB⟩ : ∃ MB, w2.heap.size = MB := ⟨_, rfl⟩
  obtain ⟨ob, hob⟩ : ∃ ob : Obj, Obj.cells #[.int .i64 (v1 : Int), .int .i64 (v2 : Int), .int .i64 0, .int .i64 0, .slice none 0 0] 26 = ob := ⟨_, rfl⟩
  obtain ⟨w3, hw3⟩ : ∃ w3, w2.alloc ob = w3 := ⟨_, rfl⟩
  have hbx : Below w2.heap.size w2 w3 := by rw [← hw3]; exact (by repeat (first | fail | (with_reducible exact Below.refl _ _) | (with_reducible refine Below.al ?_ _) | (with_reducible refine Below.drN ?_ _) | (with_reducible refine Below.drew ?_) | (with_reducible refine Below.st ?_ ?_ _; rotate_left 1; (first | (dsimp only; omega) | omega | (simp; omega) | simp)) | exact Below.refl _ _))
  have hB3 : Box w3 MB [.int .i64 (v1 : Int), .int .i64 (v2 : Int), .int .i64 0, .int .i64 0, .slice none 0 0] 26 := by rw [← hw3, ← hob]; exact Box.new' _ _ [.int .i64 (v1 : Int), .int .i64 (v2 : Int), .int .i64 0, .int .i64 0, .slice none 0 0] _ hMB.symm
  have hr3 := hr2.keep hbx
  have hR3 := hR2.keep hbx
  have hM3 := hM2.keep hbx
  have hb3 : Below w.heap.size w w3 := hb2.trans (hbx.mono (by have := hb2.size; omega))
  have HOB := Lib.hid hob
  have HW3 := Lib.hid hw3
  have hMw : w.heap.size + 2 ≤ MB := by omega
  have HMB := Lib.hid hMB
  have hs3 : MB + 1 ≤ w3.heap.size := by have := hB3.lt; omega
  clear hob hw3 hbx hR0 hM0 hr0 hR1 hM1 hr1 hR2 hM2 hr2
  go_wp2_with fail
  rw [HOB.out, HW3.out]
  -- the number at at2: from world w3 to world w4
  refine (rdNumber_any bs a n k b o (w.heap.size + 1) at2 ok2 (fun c => c = b ∧ 0 < n) w3 hr3 hR3 hne hn2).mono ?_
  rintro e w4 ⟨v4, at4, ok4, rfl, hR4, hf4, hl4, hn4, hv4, he4⟩
  have hr4 := (hr3).farS hf4 (fun c hc _ hh => hne hc.2 (Eq.trans (Eq.symm hc.1) hh))
  have hM4 := (hM3).farS hf4 (fun hh => by omega)
  have hb4 : Below w.heap.size w w4 := Far.toBelow hb3 hf4 (by have := hb3.size; omega) (fun c hc => by omega)
  have hs4 := hf4.size
  have hB4 := hB3.farS hf4 (fun hh => by omega)
  go_wp2_with fail
  -- the number at at4: from world w4 to world w5
  refine (rdNumber_any bs a n k b o (w.heap.size + 1) at4 ok4 (fun c => c = b ∧ 0 < n) w4 hr4 hR4 hne hn4).mono ?_
  rintro e w5 ⟨v5, at5, ok5, rfl, hR5, hf5, hl5, hn5, hv5, he5⟩
  have hr5 := (hr4).farS hf5 (fun c hc _ hh => hne hc.2 (Eq.trans (Eq.symm hc.1) hh))
  have hM5 := (hM4).farS hf5 (fun hh => by omega)
  have hb5 : Below w.heap.size w w5 := Far.toBelow hb4 hf5 (by have := hb4.size; omega) (fun c hc => by omega)
  have hs5 := hf5.size
  have hB5 := hB4.farS hf5 (fun hh => by omega)
  have hN : RdN bs 4 0 at5 ok5 [v1, v2, v4, v5] := by
    have h1 := ((((RdN.start bs 0).step he1).step he2).step he4).step he5
    simpa using h1
  have q2 := hB5.thawed 2
  have q3 := hB5.thawed 3
  have r2 := hB5.cell 2
  have r3 := hB5.cell 3
  obtain ⟨w6, hw6⟩ : ∃ w6, (w5.setCell ⟨MB, 2, none⟩ (.int .i64 (v4 : Int))).setCell ⟨MB, 3, none⟩ (.int .i64 (v5 : Int)) = w6 := ⟨_, rfl⟩
  have hf6 : Far (fun c => c = MB) w5 w6 := by rw [← hw6]; exact ((Far.refl (fun c => c = MB) w5).st (fun _ => rfl) _).st (fun _ => rfl) _
  have hB6 : Box w6 MB [.int .i64 (v1 : Int), .int .i64 (v2 : Int), .int .i64 (v4 : Int), .int .i64 (v5 : Int), .slice none 0 0] 26 := by rw [← hw6]; exact (hB5.set 2 (.int .i64 (v4 : Int))).set 3 (.int .i64 (v5 : Int))
  have hR6 : RdAt w6 (w.heap.size + 1) a n k at5 ok5 := Box.farS hR5 hf6 (fun hh => by omega)
  have hM6 := hM5.farS hf6 (fun hh => by omega)
  have hb6 : Below w.heap.size w w6 := Far.toBelow hb5 hf6 (by have := hb5.size; omega) (fun c hc => by omega)
  have hs6 : MB + 1 ≤ w6.heap.size := by have := hB6.lt; omega
  have HW6 := Lib.hid hw6
  have HN := Lib.hid hN
  clear hw6 hf6 hB3 hB4 hB5 hR3 hR4 hR5 hM3 hM4 hM5 hf1 hf2 hf4 hf5 he1 he2 he4 he5 hr3 hr4 hr5 hb1 hb2 hb3 hb4 hb5 hN hs1 hs2 hs4 hs5 hs0
  go_upto_region 4 with (fail)
  rw [HW6.out]
  have c2 := hR6.cell 2
  have d2 := hB6.cell 2
  have d3 := hB6.cell 3
  cases ok5 with
  | false =>
    have HNO : Hid (msgRead bs = none) := Lib.hid (by
      rcases HN.out with ⟨_, h1⟩ | ⟨h1, _⟩
      · cases h1
      · exact msgRead_none4 h1)
    have c0 := (hM6).cell 0
    have c1 := (hM6).cell 1
    have c3 := (hM6).cell 3
    have c4 := (hM6).cell 4
    have c5 := (hM6).cell 2
    have f0 := (hM6).thawed 0
    have f1 := (hM6).thawed 1
    have f2 := (hM6).thawed 2
    have f3 := (hM6).thawed 3
    have f4 := (hM6).thawed 4
    have bz := (((((hM6).set 0 (.int .i64 0)).set 1 (.int .i64 0)).set 2 (.int .i64 0)).set 3 (.int .i64 0)).set 4 (.slice none 0 0)
    have z0 := bz.cell 0
    have z1 := bz.cell 1
    have z2 := bz.cell 2
    have z3 := bz.cell 3
    have z4 := bz.cell 4
    go_wp2
    refine bodyPost_ret (v := .tuple #[.agg #[.int .i64 0, .int .i64 0, .int .i64 0, .int .i64 0, .slice none 0 0], .int .i64 0, errV 7]) (by simp [results, Tryd.results20, go_sem, z0, z1, z2, z3, z4, errV]) rfl ⟨_, ⟨0, 0, ⟨0, 0, []⟩⟩, 0, 7, rfl, ⟨none, 0, 0, 0, 0, rfl, (RowAt.nil Form.int _ anyB).ints⟩, (by repeat (first | fail | (with_reducible exact Below.refl _ _) | (with_reducible exact hb6) | (with_reducible refine Below.al ?_ _) | (with_reducible refine Below.drN ?_ _) | (with_reducible refine Below.drew ?_) | (with_reducible refine Below.st ?_ ?_ _; rotate_left 1; (first | (dsimp only; omega) | omega | (simp; omega) | simp)) | exact Below.refl _ _ | exact hb6)), Or.inr ⟨HNO.out, rfl, rfl, rfl⟩⟩
  | true =>
    have hN4 : readN bs 4 0 = some ([v1, v2, v4, v5], at5) := by
      rcases HN.out with ⟨h1, _⟩ | ⟨_, h1⟩
      · exact h1
      · cases h1
    have HN4 := Lib.hid hN4
    clear hN4
    by_cases g1 : 24 < v4
    · have e1 : ((v4 : Int) > 24) = True := by simp; omega
      have HNO : Hid (msgRead bs = none) := Lib.hid (msgRead_big HN4.out (Or.inl g1))
      clear g1
      have c0 := (hM6).cell 0
      have c1 := (hM6).cell 1
      have c3 := (hM6).cell 3
      have c4 := (hM6).cell 4
      have c5 := (hM6).cell 2
      have f0 := (hM6).thawed 0
      have f1 := (hM6).thawed 1
      have f2 := (hM6).thawed 2
      have f3 := (hM6).thawed 3
      have f4 := (hM6).thawed 4
      have bz := (((((hM6).set 0 (.int .i64 0)).set 1 (.int .i64 0)).set 2 (.int .i64 0)).set 3 (.int .i64 0)).set 4 (.slice none 0 0)
      have z0 := bz.cell 0
      have z1 := bz.cell 1
      have z2 := bz.cell 2
      have z3 := bz.cell 3
      have z4 := bz.cell 4
      go_wp2
      refine bodyPost_ret (v := .tuple #[.agg #[.int .i64 0, .int .i64 0, .int .i64 0, .int .i64 0, .slice none 0 0], .int .i64 0, errV 7]) (by simp [results, Tryd.results20, go_sem, z0, z1, z2, z3, z4, errV]) rfl ⟨_, ⟨0, 0, ⟨0, 0, []⟩⟩, 0, 7, rfl, ⟨none, 0, 0, 0, 0, rfl, (RowAt.nil Form.int _ anyB).ints⟩, (by repeat (first | fail | (with_reducible exact Below.refl _ _) | (with_reducible exact hb6) | (with_reducible refine Below.al ?_ _) | (with_reducible refine Below.drN ?_ _) | (with_reducible refine Below.drew ?_) | (with_reducible refine Below.st ?_ ?_ _; rotate_left 1; (first | (dsimp only; omega) | omega | (simp; omega) | simp)) | exact Below.refl _ _ | exact hb6)), Or.inr ⟨HNO.out, rfl, rfl, rfl⟩⟩
    · have e1 : ((v4 : Int) > 24) = False := by simp; omega
      by_cases g2 : 12 < v5
      · have e2 : ((v5 : Int) > 12) = True := by simp; omega
        have HNO : Hid (msgRead bs = none) := Lib.hid (msgRead_big HN4.out (Or.inr g2))
        clear g1 g2
        have c0 := (hM6).cell 0
        have c1 := (hM6).cell 1
        have c3 := (hM6).cell 3
        have c4 := (hM6).cell 4
        have c5 := (hM6).cell 2
        have f0 := (hM6).thawed 0
        have f1 := (hM6).thawed 1
        have f2 := (hM6).thawed 2
        have f3 := (hM6).thawed 3
        have f4 := (hM6).thawed 4
        have bz := (((((hM6).set 0 (.int .i64 0)).set 1 (.int .i64 0)).set 2 (.int .i64 0)).set 3 (.int .i64 0)).set 4 (.slice none 0 0)
        have z0 := bz.cell 0
        have z1 := bz.cell 1
        have z2 := bz.cell 2
        have z3 := bz.cell 3
        have z4 := bz.cell 4
        go_wp2
        refine bodyPost_ret (v := .tuple #[.agg #[.int .i64 0, .int .i64 0, .int .i64 0, .int .i64 0, .slice none 0 0], .int .i64 0, errV 7]) (by simp [results, Tryd.results20, go_sem, z0, z1, z2, z3, z4, errV]) rfl ⟨_, ⟨0, 0, ⟨0, 0, []⟩⟩, 0, 7, rfl, ⟨none, 0, 0, 0, 0, rfl, (RowAt.nil Form.int _ anyB).ints⟩, (by repeat (first | fail | (with_reducible exact Below.refl _ _) | (with_reducible exact hb6) | (with_reducible refine Below.al ?_ _) | (with_reducible refine Below.drN ?_ _) | (with_reducible refine Below.drew ?_) | (with_reducible refine Below.st ?_ ?_ _; rotate_left 1; (first | (dsimp only; omega) | omega | (simp; omega) | simp)) | exact Below.refl _ _ | exact hb6)), Or.inr ⟨HNO.out, rfl, rfl, rfl⟩⟩
      · have e2 : ((v5 : Int) > 12) = False := by simp; omega
        obtain ⟨P, hP⟩ : ∃ P, v4 * v5 = P := ⟨_, rfl⟩
        have hPI : (v4 : Int) * (v5 : Int) = (P : Int) := by rw [← hP]; push_cast; rfl
        have hPb : P ≤ 288 := by
          have h1 : v4 * v5 ≤ 24 * 12 := Nat.mul_le_mul (by omega) (by omega)
          omega
        have hmul : wrap64 ((v4 : Int) * (v5 : Int)) = (P : Int) := by rw [hPI]; unfold wrap64; omega
        have HB4 : Hid (¬ (24 < v4 ∨ 12 < v5)) := Lib.hid (by omega)
        have HP := Lib.hid hP
        obtain ⟨B, hB⟩ : ∃ B, w6.heap.size = B := ⟨_, rfl⟩
        have hMBB : MB + 1 ≤ B := by omega
        clear g1 g2 hP hPI hs6
        go_wp2
        rw [hmul]
        go_loopw [49] (fun i wr => ∃ (t at7 : Nat) (ok : Bool) (vs : Value) (cells : List Nat), t ≤ P ∧ i = .int .i64 t ∧ at7 ≤ n ∧ cells.length = t ∧ RdAt wr (w.heap.size + 1) a n k at7 ok ∧ Hid (RdN bs t at5 at7 ok cells) ∧ Box wr MB [.int .i64 (v1 : Int), .int .i64 (v2 : Int), .int .i64 (v4 : Int), .int .i64 (v5 : Int), vs] 26 ∧ OwnRow Form.int 3 wr B noK vs (cells.map zagOf) ∧ Box wr w.heap.size [.int .i64 0, .int .i64 0, .int .i64 0, .int .i64 0, .slice none 0 0] 26 ∧ Below w.heap.size w wr ∧ B ≤ wr.heap.size) (fun i _ => P - (intOf i).toNat)
        case atStart => exact ⟨0, at5, true, _, [], Nat.zero_le _, rfl, hn5, rfl, hR6, Lib.hid (RdN.start bs at5), hB6, OwnRow.nil _ _ _ _ _, hM6, hb6, Nat.le_of_eq hB.symm⟩
        case round =>
          clear hmul hR6 hB6 hM6 hb6 hB c2 d2 d3 HW6 HN
          obtain ⟨t, at7, ok, vs, cells, ht, rfl, hn7, hcl, hR7, hN7, hB7, hown, hM7, hb7, hBs⟩ := hrel
          by_cases hlt : t < P
          · have hrow7 : RowAt Form.u8 wr (fun c => c = b ∧ 0 < n) a n k b o bs := hrow.keep hb7
            have hMR : MB ≠ w.heap.size + 1 := by omega
            have c4 := hB7.cell 4
            have hbo := hown.base_le
            have HCL : Hid ((cells.map zagOf).length = t) := Lib.hid (by rw [List.length_map, hcl])
            go_wp2
            go_region_law (first
              | (go_simp; go_at_call 42; go_must (refine (rdNumber_any bs a n k b o (w.heap.size + 1) at7 ok (fun c => c = b ∧ 0 < n) _ (hrow7.keep (by repeat (first | fail | (with_reducible exact Below.refl _ _) | (with_reducible refine Below.al ?_ _) | (with_reducible refine Below.drN ?_ _) | (with_reducible refine Below.drew ?_) | (with_reducible refine Below.st ?_ ?_ _; rotate_left 1; (first | (dsimp only; omega) | omega | (simp; omega) | simp)) | exact Below.refl _ _))) (Box.keep hR7 (by repeat (first | fail | (with_reducible exact Below.refl _ _) | (with_reducible refine Below.al ?_ _) | (with_reducible refine Below.drN ?_ _) | (with_reducible refine Below.drew ?_) | (with_reducible refine Below.st ?_ ?_ _; rotate_left 1; (first | (dsimp only; omega) | omega | (simp; omega) | simp)) | exact Below.refl _ _))) hne hn7).mono ?_; rintro e wN ⟨vN, atN, okN, rfl, hRN, hfN, hlN, hnN, hvN, heN⟩; have hBN := (hB7.keep ((by repeat (first | fail | (with_reducible exact Below.refl _ _) | (with_reducible refine Below.al ?_ _) | (with_reducible refine Below.drN ?_ _) | (with_reducible refine Below.drew ?_) | (with_reducible refine Below.st ?_ ?_ _; rotate_left 1; (first | (dsimp only; omega) | omega | (simp; omega) | simp)) | exact Below.refl _ _)) : Below wr.heap.size wr _)).farS hfN (fun hh => hMR hh); have cN := hBN.cell 4; have hownN := (hown.keep ((by repeat (first | fail | (with_reducible exact Below.refl _ _) | (with_reducible refine Below.al ?_ _) | (with_reducible refine Below.drN ?_ _) | (with_reducible refine Below.drew ?_) | (with_reducible refine Below.st ?_ ?_ _; rotate_left 1; (first | (dsimp only; omega) | omega | (simp; omega) | simp)) | exact Below.refl _ _)) : Below wr.heap.size wr _)).farS hfN (fun c hc hh => by have h1 := (hbo c hc).1; have h2 : c = w.heap.size + 1 := hh; omega) (fun c hc _ _ _ => hc.elim); have hMN := (hM7.keep ((by repeat (first | fail | (with_reducible exact Below.refl _ _) | (with_reducible refine Below.al ?_ _) | (with_reducible refine Below.drN ?_ _) | (with_reducible refine Below.drew ?_) | (with_reducible refine Below.st ?_ ?_ _; rotate_left 1; (first | (dsimp only; omega) | omega | (simp; omega) | simp)) | exact Below.refl _ _)) : Below wr.heap.size wr _)).farS hfN (fun hh => by have h2 : w.heap.size = w.heap.size + 1 := hh; omega); have hbN : Below w.heap.size w wN := Far.toBelow ((by repeat (first | fail | (with_reducible exact Below.refl _ _) | (with_reducible exact hb7) | (with_reducible refine Below.al ?_ _) | (with_reducible refine Below.drN ?_ _) | (with_reducible refine Below.drew ?_) | (with_reducible refine Below.st ?_ ?_ _; rotate_left 1; (first | (dsimp only; omega) | omega | (simp; omega) | simp)) | exact Below.refl _ _ | exact hb7)) : Below w.heap.size w _) hfN (by have h1 := hb7.size; simp; omega) (fun c hc => by have h2 : c = w.heap.size + 1 := hc; omega); have hsN : wr.heap.size ≤ wN.heap.size := hfN.size; have cNa := fun ob => (hBN.alloc ob).cell 4))
              | (go_simp; go_at_call 43; go_must (refine (wireZag_any vN _ hvN).mono ?_; rintro e wZ ⟨rfl, rfl⟩))
              | (refine at_oper ⟨some 58, _, _, _, _, _⟩ ?_; go_must (refine step_own rfl (.tmp 53) (.tmp 57) 22 (by rfl) Form.int B noK 3 j0 (.int .i64 0) 8 Tryd.underlying22 hj hy0 hy1 hy2 (by rfl) (by decide) vs (cells.map zagOf) (by rfl) (hownN.keep (by repeat (first | fail | (with_reducible exact Below.refl _ _) | (with_reducible refine Below.al ?_ _) | (with_reducible refine Below.drN ?_ _) | (with_reducible refine Below.drew ?_) | (with_reducible refine Below.st ?_ ?_ _; rotate_left 1; (first | (dsimp only; omega) | omega | (simp; omega) | simp)) | exact Below.refl _ _))) wN.heap.size 1 [.int .i64 (zagOf vN)] 3 (zagOf vN) (by rfl) (Box.new' wN wN.heap.size [.int .i64 (zagOf vN)] 3 rfl) rfl (by rw [HCL.out]; omega) (by rw [HCL.out]; unfold maxLen; omega) (by simp; omega) _ rfl ?_); intro g cap wG hownG hgrow hlies hgs; have hBG := Box.grown (hBN.keep (by repeat (first | fail | (with_reducible exact Below.refl _ _) | (with_reducible refine Below.al ?_ _) | (with_reducible refine Below.drN ?_ _) | (with_reducible refine Below.drew ?_) | (with_reducible refine Below.st ?_ ?_ _; rotate_left 1; (first | (dsimp only; omega) | omega | (simp; omega) | simp)) | exact Below.refl _ _))) hgrow (fun e => by have := (hbo _ e.symm).1; omega); have cG := hBG.cell 4; have fG := hBG.thawed 4))
            all_goals
              have hRG := Box.grown (Box.keep hRN (by repeat (first | fail | (with_reducible exact Below.refl _ _) | (with_reducible refine Below.al ?_ _) | (with_reducible refine Below.drN ?_ _) | (with_reducible refine Below.drew ?_) | (with_reducible refine Below.st ?_ ?_ _; rotate_left 1; (first | (dsimp only; omega) | omega | (simp; omega) | simp)) | exact Below.refl _ _))) hgrow (fun e => by have := (hbo _ e.symm).1; omega)
              have hMG := Box.grown (hMN.keep (by repeat (first | fail | (with_reducible exact Below.refl _ _) | (with_reducible refine Below.al ?_ _) | (with_reducible refine Below.drN ?_ _) | (with_reducible refine Below.drew ?_) | (with_reducible refine Below.st ?_ ?_ _; rotate_left 1; (first | (dsimp only; omega) | omega | (simp; omega) | simp)) | exact Below.refl _ _))) hgrow (fun e => by have := (hbo _ e.symm).1; omega)
              have hbG : Below w.heap.size w wG := Below.grown ((by repeat (first | fail | (with_reducible exact Below.refl _ _) | (with_reducible exact hbN) | (with_reducible refine Below.al ?_ _) | (with_reducible refine Below.drN ?_ _) | (with_reducible refine Below.drew ?_) | (with_reducible refine Below.st ?_ ?_ _; rotate_left 1; (first | (dsimp only; omega) | omega | (simp; omega) | simp)) | exact Below.refl _ _ | exact hbN)) : Below w.heap.size w _) hgrow (by have h1 := hbN.size; simp; omega) (fun c hc => by have := (hbo c hc).1; omega)
              have hgB := (hownG.base_le g rfl).1
              have hsG : B ≤ wG.heap.size := by have h1 := hgrow.size; simp at h1; omega
              rw [HCL.out] at hownG
              have hRF : RdAt (wG.setCell ⟨MB, 4, none⟩ (.slice (some ⟨g, 0, none⟩) (t + 1) cap)) (w.heap.size + 1) a n k atN okN := Box.far hRG (by dsimp only; omega) _
              have hMF := Box.far hMG (a := ⟨MB, 4, none⟩) (by dsimp only; omega) (.slice (some ⟨g, 0, none⟩) (t + 1) cap)
              have hBF : Box (wG.setCell ⟨MB, 4, none⟩ (.slice (some ⟨g, 0, none⟩) (t + 1) cap)) MB [.int .i64 (v1 : Int), .int .i64 (v2 : Int), .int .i64 (v4 : Int), .int .i64 (v5 : Int), .slice (some ⟨g, 0, none⟩) (t + 1) cap] 26 := hBG.set 4 _
              have hownF : OwnRow Form.int 3 (wG.setCell ⟨MB, 4, none⟩ (.slice (some ⟨g, 0, none⟩) (t + 1) cap)) B noK (.slice (some ⟨g, 0, none⟩) (t + 1) cap) ((cells ++ [vN]).map zagOf) := by
                rw [List.map_append]
                exact hownG.set (fun e => by simp [Value.ownBlock] at e; omega) (fun hh => hh.elim) _
              have hbF : Below w.heap.size w (wG.setCell ⟨MB, 4, none⟩ (.slice (some ⟨g, 0, none⟩) (t + 1) cap)) := hbG.setCell (by dsimp only; omega) _
              have hNF : Hid (RdN bs (t + 1) at5 atN okN (cells ++ [vN])) := Lib.hid (hN7.out.step heN)
              have hcF : (cells ++ [vN]).length = t + 1 := by rw [List.length_append, hcl]; rfl
              have hsF : B ≤ (wG.setCell ⟨MB, 4, none⟩ (.slice (some ⟨g, 0, none⟩) (t + 1) cap)).heap.size := by simpa [World.setCell] using hsG
              have HALL := Lib.hid (And.intro hRF (And.intro hMF (And.intro hBF (And.intro hownF (And.intro hbF (And.intro hcF hsF))))))
              clear hRG hMG hbG hgB hsG hRF hMF hBF hownF hbF hcF hsF hownG hgrow hlies hgs hBG cG fG hRN hMN hBN hbN hownN cN cNa hB7 hR7 hM7 hown hb7 hrow7 c4 hN7
              go_wp2
              go_roundw
              case rel => exact ⟨t + 1, atN, okN, _, cells ++ [vN], by omega, by go_num, hnN, HALL.out.2.2.2.2.2.1, HALL.out.1, hNF, HALL.out.2.2.1, HALL.out.2.2.2.1, HALL.out.2.1, HALL.out.2.2.2.2.1, HALL.out.2.2.2.2.2.2⟩
              case measure => simp [intOf]; omega
          · obtain rfl : P = t := by omega
            have hrow7 : RowAt Form.u8 wr (fun c => c = b ∧ 0 < n) a n k b o bs := hrow.keep hb7
            have hML : (cells.map zagOf).length = P := by rw [List.length_map, hcl]
            obtain ⟨av, cv, bv, hvs, hbv, hrw⟩ := hown.row (G := anyB) (fun _ _ _ => trivial) (fun _ _ => trivial)
            rw [hML] at hvs hrw hbv
            subst hvs
            have hiv := hrw.ints
            have hcapn := hrow7.le
            obtain ⟨FA, hFA⟩ : ∃ FA, msgFault (msgOf v1 v2 v4 v5 cells) = FA := ⟨_, rfl⟩
            have HFA := Lib.hid hFA
            have e0 := hB7.cell 0
            have e1' := hB7.cell 1
            have e2' := hB7.cell 2
            have e3 := hB7.cell 3
            have e4 := hB7.cell 4
            have p1 := hR7.cell 1
            have p2 := hR7.cell 2
            have hft : ∀ W, IntsAt W av P cv bv 0 (cells.map zagOf) → Calls Tryd.prog 30 #[.agg #[.int .i64 (v1 : Int), .int .i64 (v2 : Int), .int .i64 (v4 : Int), .int .i64 (v5 : Int), .slice av P cv]] W fun e w' => e = .returned (errV FA) ∧ Below W.heap.size W w' := fun W hW => by rw [← hFA]; exact wireFault_any (msgOf v1 v2 v4 v5 cells) av P cv bv 0 W hW
            obtain ⟨S1, hS1⟩ : ∃ S1, (prgSums (bs.take at7)).1 = S1 := ⟨_, rfl⟩
            obtain ⟨S2, hS2⟩ : ∃ S2, (prgSums (bs.take at7)).2 = S2 := ⟨_, rfl⟩
            have hst : ∀ W, RowAt Form.u8 W (fun c => c = b ∧ 0 < n) a at7 k b o (bs.take at7) → Calls Tryd.prog 33 #[.slice a at7 k] W fun e w' => e = .returned (.agg #[.int .u8 (S1 : Int), .int .u8 (S2 : Int)]) ∧ Below W.heap.size W w' := fun W hW => by rw [← hS1, ← hS2]; exact wireSums_any (bs.take at7) a at7 k b o (fun c => c = b ∧ 0 < n) W hW
            clear hown hrw hFA
            go_upto_region 10 with (fail)
            go_cut [104] (fun s wx => ∃ d : Bool, s = .bool d ∧ Hid (d = false ↔ (ok = true ∧ FA = 0 ∧ at7 + 2 ≤ n ∧ S1 = bt bs at7 ∧ S2 = bt bs (at7 + 1))) ∧ Below wr.heap.size wr wx)
            case first =>
              cases ok with
              | false =>
                go_quiet (fail)
                go_wp2_with fail
                go_meet
                exact ⟨true, rfl, Lib.hid ⟨(fun h => by cases h), (fun h => by cases h.1)⟩, (by repeat (first | fail | (with_reducible exact Below.refl _ _) | (with_reducible refine Below.al ?_ _) | (with_reducible refine Below.drN ?_ _) | (with_reducible refine Below.drew ?_) | (with_reducible refine Below.st ?_ ?_ _; rotate_left 1; (first | (dsimp only; omega) | omega | (simp; omega) | simp)) | exact Below.refl _ _))⟩
              | true =>
                have y2 : ∀ q : Grown wr, q.w.cell? ⟨w.heap.size + 1, 2, none⟩ = some (.bool true) := fun q => (Box.keep hR7 q.below).cell 2
                have m0 : ∀ q : Grown wr, q.w.cell? ⟨MB, 0, none⟩ = some (.int .i64 (v1 : Int)) := fun q => (hB7.keep q.below).cell 0
                have m1 : ∀ q : Grown wr, q.w.cell? ⟨MB, 1, none⟩ = some (.int .i64 (v2 : Int)) := fun q => (hB7.keep q.below).cell 1
                have m2 : ∀ q : Grown wr, q.w.cell? ⟨MB, 2, none⟩ = some (.int .i64 (v4 : Int)) := fun q => (hB7.keep q.below).cell 2
                have m3 : ∀ q : Grown wr, q.w.cell? ⟨MB, 3, none⟩ = some (.int .i64 (v5 : Int)) := fun q => (hB7.keep q.below).cell 3
                have m4 : ∀ q : Grown wr, q.w.cell? ⟨MB, 4, none⟩ = some (.slice av P cv) := fun q => (hB7.keep q.below).cell 4
                have y1 : ∀ q : Grown wr, q.w.cell? ⟨w.heap.size + 1, 1, none⟩ = some (.int .i64 (at7 : Int)) := fun q => (Box.keep hR7 q.below).cell 1
                by_cases hz : FA = 0
                · have herr := errV_nil hz
                  rw [herr] at hft
                  have HFT := Lib.hid hft
                  have HST := Lib.hid hst
                  have HIV := Lib.hid hiv
                  clear hft hst hiv
                  have hat7b : at7 ≤ 3000 := by
                    have hc : readN bs P at5 = some (cells, at7) := by
                      rcases hN7.out with ⟨h1, _⟩ | ⟨_, h1⟩
                      · exact h1
                      · cases h1
                    have h1 := (readN_end HN4.out).2.2.2.1
                    have h2 := (readN_end hc).2.2.2.1
                    omega
                  by_cases hlen : at7 + 2 ≤ n
                  · obtain rfl := h.ptr (by omega)
                    have hw2 : IntKind.i64.wrap ((at7 : Int) + 2) = (at7 : Int) + 2 := IntWalk.i64_in _ (by omega)
                    have g1 : ((at7 : Int) + 2 > (n : Int)) = False := by simp; omega
                    obtain ⟨X1, hX1⟩ : ∃ X1, bt bs at7 = X1 := ⟨_, rfl⟩
                    obtain ⟨X2, hX2⟩ : ∃ X2, bt bs (at7 + 1) = X2 := ⟨_, rfl⟩
                    have x1 : ∀ q : Grown wr, q.w.cell? ⟨b, o + at7, none⟩ = some (.int .u8 (X1 : Int)) := fun q => by rw [← hX1]; exact (u8_cell (hrow7.keep q.below) (i := at7) (by omega)).1
                    have x2 : ∀ q : Grown wr, q.w.cell? ⟨b, o + at7 + 1, none⟩ = some (.int .u8 (X2 : Int)) := fun q => by rw [← hX2]; exact (u8_cell (hrow7.keep q.below) (i := at7 + 1) (by omega)).1
                    have hat : ∀ (W : World) (c : Nat), (Instr.arrayAt 76 (.slice (some ⟨b, o + at7, none⟩) 2 c)).run Tryd.prog W = .ok (.pointer (some ⟨b, o + at7, none⟩)) W := fun W c => run_arrayAt W 76 _ 2 _ 2 c Tryd.underlying76 (Nat.le_refl _)
                    have l0 : (0 : Int) ≤ (at7 : Int) := by omega
                    have l1 : (at7 : Int) ≤ (k : Int) := by omega
                    have l2 : (at7 : Int) + 2 ≤ (k : Int) := by omega
                    have l3 : (k = at7) = False := by simp; omega
                    have l4 : ((at7 : Int) + 2).toNat = at7 + 2 := by omega
                    have l5 : at7 + 2 - at7 = 2 := by omega
                    have hneq := fun W => arr2_neq (S1 : Int) (S2 : Int) (X1 : Int) (X2 : Int) W
                    have hrt := hrow7.firstk (k := at7) (by omega)
                    have HRT := Lib.hid hrt
                    by_cases hq : S1 = X1 ∧ S2 = X2
                    · have hd : (!((S1 : Int) == (X1 : Int) && (S2 : Int) == (X2 : Int))) = false := by simp [hq.1, hq.2]
                      rw [hd] at hneq
                      have HQ := Lib.hid hq
                      clear hd hrt hq
                      refine wp_region_grow (by kernel_rfl) (by kernel_rfl) ?_
                      repeat (go_big_quiet_step ((first | (go_at_call 30; rename_i q; exact Grown.call (HFT.out _ (IntsAt.keep HIV.out q.below))) | (go_at_call 33; rename_i q; exact Grown.call (HST.out _ (HRT.out.keep q.below))))))
                      refine wpQuiet_nil ?_
                      intro _ hw'
                      obtain ⟨q, rfl⟩ := hw'
                      have hbF := q.below
                      clear hw2 hneq
                      go_wp2_with fail
                      go_meet
                      exact ⟨false, rfl, (Lib.hid ⟨(fun _ => ⟨(by trivial), hz, hlen, HQ.out.1.trans hX1.symm, HQ.out.2.trans hX2.symm⟩), (fun _ => rfl)⟩), (by repeat (first | fail | (with_reducible exact Below.refl _ _) | (with_reducible refine Below.al ?_ _) | (with_reducible refine Below.drN ?_ _) | (with_reducible refine Below.drew ?_) | (with_reducible refine Below.st ?_ ?_ _; rotate_left 1; (first | (dsimp only; omega) | omega | (simp; omega) | simp)) | (with_reducible refine Below.go ?_ hbF) | exact Below.refl _ _))⟩
                    · have hd : (!((S1 : Int) == (X1 : Int) && (S2 : Int) == (X2 : Int))) = true := by
                        by_cases q1 : S1 = X1
                        · have q2 : ¬ S2 = X2 := fun q2 => hq ⟨q1, q2⟩
                          simp [q1]; omega
                        · simp; omega
                      rw [hd] at hneq
                      clear hd hrt
                      refine wp_region_grow (by kernel_rfl) (by kernel_rfl) ?_
                      repeat (go_big_quiet_step ((first | (go_at_call 30; rename_i q; exact Grown.call (HFT.out _ (IntsAt.keep HIV.out q.below))) | (go_at_call 33; rename_i q; exact Grown.call (HST.out _ (HRT.out.keep q.below))))))
                      refine wpQuiet_nil ?_
                      intro _ hw'
                      obtain ⟨q, rfl⟩ := hw'
                      have hbF := q.below
                      clear hw2 hneq
                      go_wp2_with fail
                      go_meet
                      exact ⟨true, rfl, (Lib.hid ⟨(fun h => by cases h), (fun h => absurd ⟨h.2.2.2.1.trans hX1, h.2.2.2.2.trans hX2⟩ hq)⟩), (by repeat (first | fail | (with_reducible exact Below.refl _ _) | (with_reducible refine Below.al ?_ _) | (with_reducible refine Below.drN ?_ _) | (with_reducible refine Below.drew ?_) | (with_reducible refine Below.st ?_ ?_ _; rotate_left 1; (first | (dsimp only; omega) | omega | (simp; omega) | simp)) | (with_reducible refine Below.go ?_ hbF) | exact Below.refl _ _))⟩
                  · have hw2 : IntKind.i64.wrap ((at7 : Int) + 2) = (at7 : Int) + 2 := IntWalk.i64_in _ (by omega)
                    have g1 : ((at7 : Int) + 2 > (n : Int)) = True := by simp; omega
                    refine wp_region_grow (by kernel_rfl) (by kernel_rfl) ?_
                    repeat (go_big_quiet_step ((go_at_call 30; rename_i q; exact Grown.call (HFT.out _ (IntsAt.keep HIV.out q.below)))))
                    refine wpQuiet_nil ?_
                    intro _ hw'
                    obtain ⟨q, rfl⟩ := hw'
                    have hbF := q.below
                    clear hw2
                    go_wp2_with fail
                    go_meet
                    exact ⟨true, rfl, Lib.hid ⟨(fun h => by cases h), (fun h => absurd h.2.2.1 hlen)⟩, (by repeat (first | fail | (with_reducible exact Below.refl _ _) | (with_reducible refine Below.al ?_ _) | (with_reducible refine Below.drN ?_ _) | (with_reducible refine Below.drew ?_) | (with_reducible refine Below.st ?_ ?_ _; rotate_left 1; (first | (dsimp only; omega) | omega | (simp; omega) | simp)) | (with_reducible refine Below.go ?_ hbF) | exact Below.refl _ _))⟩
                · skip
                  have herr := errV_err hz
                  rw [herr] at hft
                  have HFT := Lib.hid hft
                  have HST := Lib.hid hst
                  have HIV := Lib.hid hiv
                  clear hft hst hiv
                  refine wp_region_grow (by kernel_rfl) (by kernel_rfl) ?_
                  repeat (go_big_quiet_step ((go_at_call 30; rename_i q; exact Grown.call (HFT.out _ (IntsAt.keep HIV.out q.below)))))
                  refine wpQuiet_nil ?_
                  intro _ hw'
                  obtain ⟨q, rfl⟩ := hw'
                  have hbF := q.below
                  go_wp2_with fail
                  go_meet
                  exact ⟨true, rfl, Lib.hid ⟨(fun h => by cases h), (fun h => absurd h.2.1 hz)⟩, (by repeat (first | fail | (with_reducible exact Below.refl _ _) | (with_reducible refine Below.al ?_ _) | (with_reducible refine Below.drN ?_ _) | (with_reducible refine Below.drew ?_) | (with_reducible refine Below.st ?_ ?_ _; rotate_left 1; (first | (dsimp only; omega) | omega | (simp; omega) | simp)) | (with_reducible refine Below.go ?_ hbF) | exact Below.refl _ _))⟩
            case rest =>
              obtain ⟨d, rfl, hd, hbx⟩ := hcut
              have hMx := hM7.keep hbx
              have hbw : Below w.heap.size w wc := hb7.trans (hbx.mono hb7.size)
              have HC : Hid (ok = true → msgRead bs = if FA ≠ 0 ∨ n < at7 + 2 then none else if [S1, S2] = [bt bs at7, bt bs (at7 + 1)] then some (msgOf v1 v2 v4 v5 cells, at7 + 2) else none) := Lib.hid fun hok => by
                have hc : readN bs (v4 * v5) at5 = some (cells, at7) := by
                  rw [HP.out]
                  rcases hN7.out with ⟨h1, _⟩ | ⟨_, h1⟩
                  · exact h1
                  · rw [hok] at h1; cases h1
                rw [msgRead_at HN4.out HB4.out hc, HFA.out, HL.out, hS1, hS2]
                rfl
              cases d with
              | true =>
                have HNO : Hid (msgRead bs = none) := Lib.hid (by
                  cases ok with
                  | false =>
                    refine msgRead_cells HN4.out HB4.out ?_
                    rw [HP.out]
                    rcases hN7.out with ⟨_, h1⟩ | ⟨h1, _⟩
                    · cases h1
                    · exact h1
                  | true =>
                    rw [HC.out rfl]
                    by_cases z1 : FA ≠ 0 ∨ n < at7 + 2
                    · rw [if_pos z1]
                    · rw [if_neg z1, if_neg fun z2 => by
                        simp only [List.cons.injEq, and_true] at z2
                        have z3 : FA = 0 := by omega
                        have := hd.out.2 ⟨rfl, z3, by omega, z2.1, z2.2⟩
                        cases this])
                clear e0 e1' e2' e3 e4 p1 p2 hft hst
                have c0 := (hMx).cell 0
                have c1 := (hMx).cell 1
                have c3 := (hMx).cell 3
                have c4 := (hMx).cell 4
                have c5 := (hMx).cell 2
                have f0 := (hMx).thawed 0
                have f1 := (hMx).thawed 1
                have f2 := (hMx).thawed 2
                have f3 := (hMx).thawed 3
                have f4 := (hMx).thawed 4
                have bz := (((((hMx).set 0 (.int .i64 0)).set 1 (.int .i64 0)).set 2 (.int .i64 0)).set 3 (.int .i64 0)).set 4 (.slice none 0 0)
                have z0 := bz.cell 0
                have z1 := bz.cell 1
                have z2 := bz.cell 2
                have z3 := bz.cell 3
                have z4 := bz.cell 4
                go_wp2
                refine bodyPost_ret (v := .tuple #[.agg #[.int .i64 0, .int .i64 0, .int .i64 0, .int .i64 0, .slice none 0 0], .int .i64 0, errV 7]) (by simp [results, Tryd.results20, go_sem, z0, z1, z2, z3, z4, errV]) rfl ⟨_, ⟨0, 0, ⟨0, 0, []⟩⟩, 0, 7, rfl, ⟨none, 0, 0, 0, 0, rfl, (RowAt.nil Form.int _ anyB).ints⟩, (by repeat (first | fail | (with_reducible exact Below.refl _ _) | (with_reducible exact hbw) | (with_reducible refine Below.al ?_ _) | (with_reducible refine Below.drN ?_ _) | (with_reducible refine Below.drew ?_) | (with_reducible refine Below.st ?_ ?_ _; rotate_left 1; (first | (dsimp only; omega) | omega | (simp; omega) | simp)) | exact Below.refl _ _ | exact hbw)), Or.inr ⟨HNO.out, rfl, rfl, rfl⟩⟩
              | false =>
                obtain ⟨hok, hz, hlen, hs1, hs2⟩ := hd.out.1 rfl
                have HRD : Hid (msgRead bs = some (msgOf v1 v2 v4 v5 cells, at7 + 2)) := Lib.hid (by rw [HC.out hok, if_neg (by omega), hs1, hs2, if_pos rfl])
                have hiw := hiv.keep hbx
                have hBx := hB7.keep hbx
                have hRx := Box.keep hR7 hbx
                have HIW := Lib.hid hiw
                clear e0 e1' e2' e3 e4 p1 p2 hft hst hok hz hs1 hs2 hd HC hiw hiv hrow7 hbx
                have e0 := hBx.cell 0
                have e1' := hBx.cell 1
                have e2' := hBx.cell 2
                have e3 := hBx.cell 3
                have e4 := hBx.cell 4
                have p1 := hRx.cell 1
                have f0 := hMx.thawed 0
                have f1 := hMx.thawed 1
                have f2 := hMx.thawed 2
                have f3 := hMx.thawed 3
                have f4 := hMx.thawed 4
                have o0 := hMx.cell 0
                have o1 := hMx.cell 1
                have o2 := hMx.cell 2
                have o3 := hMx.cell 3
                have o4 := hMx.cell 4
                have hne1 : ¬ w.heap.size = MB := by omega
                have hne2 : ¬ MB = w.heap.size := by omega
                have hne3 : ¬ w.heap.size = w.heap.size + 1 := by omega
                go_wp2
                go_region
                all_goals
                  have bz := (((((hMx.set 0 (.int .i64 (v1 : Int))).set 1 (.int .i64 (v2 : Int))).set 2 (.int .i64 (v4 : Int))).set 3 (.int .i64 (v5 : Int))).set 4 (.slice av P cv)).drew
                  have z0 := bz.cell 0
                  have z1 := bz.cell 1
                  have z2 := bz.cell 2
                  have z3 := bz.cell 3
                  have z4 := bz.cell 4
                  have hfz : Far (fun c => c = w.heap.size) wc (((((wc.setCell ⟨w.heap.size, 0, none⟩ (.int .i64 (v1 : Int))).setCell ⟨w.heap.size, 1, none⟩ (.int .i64 (v2 : Int))).setCell ⟨w.heap.size, 2, none⟩ (.int .i64 (v4 : Int))).setCell ⟨w.heap.size, 3, none⟩ (.int .i64 (v5 : Int))).setCell ⟨w.heap.size, 4, none⟩ (.slice av P cv)).drew :=
                    ((((((Far.refl (fun c => c = w.heap.size) wc).st (fun _ => rfl) _).st (fun _ => rfl) _).st (fun _ => rfl) _).st (fun _ => rfl) _).st (fun _ => rfl) _).drew
                  have hiz := HIW.out.farS hfz (fun h0 hh => by have := hbv h0; omega)
                  have hbz := Far.toBelow hbw hfz hbw.size (fun c hc => by omega)
                  have HIZ := Lib.hid hiz
                  have HBZ := Lib.hid hbz
                  clear hiz hbz hfz
                  go_wp2
                  have HW2 : Hid (wrap64 ((at7 : Int) + 2) = (at7 : Int) + 2) := Lib.hid (by have h1 := h.max; unfold maxLen at h1; unfold wrap64; omega)
                  refine bodyPost_ret (v := .tuple #[.agg #[.int .i64 (v1 : Int), .int .i64 (v2 : Int), .int .i64 (v4 : Int), .int .i64 (v5 : Int), .slice av P cv], .int .i64 ((at7 : Int) + 2), .nilIface]) (by simp [results, Tryd.results20, go_sem, z0, z1, z2, z3, z4, HW2.out]) rfl
                    ⟨_, msgOf v1 v2 v4 v5 cells, (at7 : Int) + 2, 0, by rw [errV_nil rfl]; rfl, ⟨av, P, cv, bv, 0, rfl, HIZ.out⟩, HBZ.out, Or.inl ⟨by rw [HRD.out, show ((at7 : Int) + 2).toNat = at7 + 2 by omega], by omega, rfl⟩⟩
end Go.Proofs.YtgknjikjjklaiaaDoor
