/- Texts joined: Mat5, Same, Blank. -/
import Derived.Test.YtgknjikjjklaiaaGreatDoorJ08
import Derived.Test.YtgknjikjjklaiaaGreatDoorJ03
import Derived.Test.YtgknjikjjklaiaaGreatDoorJ04
import Derived.Test.YtgknjikjjklaiaaGreatDoorJ01
import Derived.BigQuiet
import Derived.IntWalk
import Derived.RegionTactic
section
set_option linter.unusedVariables false
set_option linter.unusedSimpArgs false
namespace Go.Proofs.YtgknjikjjklaiaaGreatDoor
open Go.RowKit Gal
theorem cf_mul (vs : Array Value) (W : World) : (callFunc 133 vs).run Tryz.prog W = .ok (.enter 133 vs) W := by kernel_rfl
set_option maxRecDepth 100000 in
set_option maxHeartbeats 1000000 in
theorem matMul_new (ma mb : Mat) (va vb : Value) (w : World) (ha : MatAt w va ma) (hb : MatAt w vb mb) (hf : mulFault ma mb = 0) :
  Calls Tryz.prog 129 #[va, vb] w fun e w' => ∃ v, e = .returned (.tuple #[v, .nilIface]) ∧ MatNew w.heap.size w' v (matMul ma mb) ∧ Below w.heap.size w w' := by
 obtain ⟨hc, hcr⟩ := mulFault_ok hf
 obtain ⟨fa, fb⟩ := firstFault_two.1 hc
 obtain ⟨R, K, eR, eK, hR, hK, hla, hea⟩ := matFault_ok fa
 obtain ⟨K', C, eK', eC, hK', hC, hlb, heb⟩ := matFault_ok fb
 obtain ⟨mar, mac, xs⟩ := ma
 obtain ⟨mbr, mbc, ys⟩ := mb
 dsimp only at eR eK eK' eC hcr hla hlb
 subst eR eK eK' eC
 obtain rfl : K = K' := by omega
 clear hcr hea heb
 obtain ⟨a0, n0, k0, b0, o0, rfl, h0⟩ := ha
 obtain ⟨a1, n1, k1, b1, o1, rfl, h1⟩ := hb
 obtain rfl : R * K = n0 := by rw [← hla]; exact h0.len
 obtain rfl : K * C = n1 := by rw [← hlb]; exact h1.len
 dsimp only at h0 h1
 have hE : errV (firstFault [⟨R, K, xs⟩, ⟨K, C, ys⟩]) = .nilIface := errV_nil hc
 clear hf hc fa fb hla hlb
 go_enter Tryz.func129, Tryz.ntmps129
 go_wp2_with fail
 refine (check_any _ _ _ _ _ [⟨R, K, xs⟩, ⟨K, C, ys⟩] _ (mats2 (Box.new' _ _ _ _ (by simp)) (h0.alloc _ |>.alloc _ |>.alloc _ |>.alloc _) (h1.alloc _ |>.alloc _ |>.alloc _ |>.alloc _))).mono ?_
 rintro e w1 ⟨rfl, hb1⟩
 have B2 := (((Box.new' _ w.heap.size _ _ (by simp)).alloc _).alloc _ |>.alloc _).keep hb1
 have B2c := B2.cell
 have B2f := B2.thawed
 have B2z := B2.lt
 have B2k := lt_add B2z
 have B3 := ((Box.new' _ (w.heap.size + 1) _ _ (by simp)).alloc _ |>.alloc _).keep hb1
 have B3c := B3.cell
 have B3f := B3.thawed
 have B3z := B3.lt
 have B3k := lt_add B3z
 have B4 := ((Box.new' _ (w.heap.size + 1 + 1) _ _ (by simp)).alloc _).keep hb1
 have B4c := B4.cell
 have B4f := B4.thawed
 have B4z := B4.lt
 have B4k := lt_add B4z
 have z1 := hb1.size
 simp at z1
 go_wp2_with fail
 have x0 := (h0.alloc _ |>.alloc _ |>.alloc _ |>.alloc _).keep hb1
 have x1 := (h1.alloc _ |>.alloc _ |>.alloc _ |>.alloc _).keep hb1
 refine (filled_any R C hR (by omega) 133 #[.pointer (some ⟨w.heap.size, 0, none⟩), .pointer (some ⟨w.heap.size + 1, 0, none⟩)] (mulCell xs ys K C) _ cf_mul ?_).mono ?_
 ·intro i j hi hj W hW
  exact mulCell_any _ _ R K C _ _ _ _ _ _ _ _ xs ys hR hK hC W (B2.keep hW) (B3.keep hW) (x0.keep hW) (x1.keep hW) i j hi hj
 ·rintro e w2 ⟨a2, k2, b2, rfl, hn2, hi2, hb2⟩
  have C4 := B4.keep hb2
  have C4c := C4.cell
  have C4f := C4.thawed
  have C4z := C4.lt
  have C4k := lt_add C4z
  go_wp2
  refine bodyPost_ret (v := .tuple #[.agg #[.int .i64 R, .int .i64 C, .slice a2 (R * C) k2], .nilIface]) (by simp [results, Tryz.results129, go_sem, C4c]) rfl ⟨_, rfl, MatNew.mk (fun h => by have := hn2 h; omega) (hi2.set3 (fun h => by have := hn2 h; omega) _ _ _), (Below.x2 hb2 hb1)⟩
theorem matMul_ok (ma mb : Mat) (va vb : Value) (w : World) (ha : MatAt w va ma) (hb : MatAt w vb mb) (hf : mulFault ma mb = 0) :
  Calls Tryz.prog 129 #[va, vb] w fun e w' => ∃ v, e = .returned (.tuple #[v, .nilIface]) ∧ MatAt w' v (matMul ma mb) ∧ Below w.heap.size w w' :=
 (matMul_new ma mb va vb w ha hb hf).mono fun _ _ ⟨v, h1, h2, h3⟩ => ⟨v, h1, h2.at, h3⟩
end Go.Proofs.YtgknjikjjklaiaaGreatDoor
end
section
set_option linter.unusedVariables false
set_option linter.unusedSimpArgs false
namespace Go.Proofs.YtgknjikjjklaiaaGreatDoor
open Go.RowKit Gal
set_option maxRecDepth 100000 in
set_option maxHeartbeats 1000000 in
theorem matrices_any (ma mb : Mat) (va vb : Value) (w : World) (ha : MatAt w va ma) (hb : MatAt w vb mb) :
  Calls Tryz.prog 43 #[va, vb] w fun e w' => e = .returned (.bool (decide (ma = mb))) ∧ Below w.heap.size w w' := by
 obtain ⟨r0, c0, xs⟩ := ma
 obtain ⟨r1, c1, ys⟩ := mb
 obtain ⟨a0, n0, k0, b0, o0, rfl, h0⟩ := ha
 obtain ⟨a1, n1, k1, b1, o1, rfl, h1⟩ := hb
 dsimp only at h0 h1
 by_cases h : r0 = r1 ∧ c0 = c1
 ·obtain ⟨rfl, rfl⟩ := h
  have e1 : (r0 != r0) = false := by simp
  have e2 : (c0 != c0) = false := by simp
  go_enter Tryz.func43, Tryz.ntmps43
  go_wp2_with fail
  refine (ints_any _ _ _ _ _ _ _ _ _ _ xs ys _ (h0.alloc _ |>.alloc _) (h1.alloc _ |>.alloc _)).mono ?_
  rintro e w1 ⟨rfl, m, rfl⟩
  go_wp2
  go_ret
  refine ⟨ret_val ?_, Below.x0⟩
  simp [go_sem]
 ·have hd : decide ((⟨r0, c0, xs⟩ : Mat) = ⟨r1, c1, ys⟩) = false := decide_eq_false (fun e => h (by simp only [Mat.mk.injEq] at e; exact ⟨e.1, e.2.1⟩))
  rw [hd]
  clear hd
  by_cases hr : r0 = r1
  ·subst hr
   have e1 : (r0 != r0) = false := by simp
   have e2 : (c0 != c1) = true := by simp; intro e; exact h ⟨rfl, e⟩
   clear h
   go_enter Tryz.func43, Tryz.ntmps43
   go_wp2
   go_ret
   exact ⟨rfl, Below.x0⟩
  ·have e1 : (r0 != r1) = true := by simp [hr]
   clear h hr
   go_enter Tryz.func43, Tryz.ntmps43
   go_wp2
   go_ret
   exact ⟨rfl, Below.x0⟩
end Go.Proofs.YtgknjikjjklaiaaGreatDoor
end
section
set_option linter.unusedVariables false
set_option linter.unusedSimpArgs false
namespace Go.Proofs.YtgknjikjjklaiaaGreatDoor
open Go.RowKit Gal
theorem ints_box {w : World} {b : Nat} {xs : List Int} {t : TypeId} (h : Box w b (xs.map (Value.int .i64)) t) (hl : xs.length ≤ maxLen) : IntsAt w (some ⟨b, 0, none⟩) xs.length xs.length b 0 xs := by
 refine ⟨rfl, Nat.le_refl _, hl, fun _ => rfl, fun _ => h.lt, fun i hi => ?_⟩
 rw [Nat.zero_add, h.cell]
 unfold ix
 rw [List.getElem?_map, List.getElem?_eq_getElem hi]
 rfl
set_option maxRecDepth 100000 in
set_option maxHeartbeats 1000000 in
theorem blank_any (R C : Nat) (hR : R ≤ 24) (hC : C ≤ 24) (w : World) :
  Calls Tryz.prog 36 #[.int .i64 R, .int .i64 C] w fun e w' =>
   ∃ b, e = .returned (.agg #[.int .i64 R, .int .i64 C, .slice (some ⟨b, 0, none⟩) (R * C) (R * C)]) ∧ w.heap.size ≤ b ∧ Box w' b ((zeros (R * C)).map (Value.int .i64)) 3 ∧ Below w.heap.size w w' := by
 have hrc : R * C ≤ 576 := Nat.mul_le_mul hR hC
 have hrc' : (R : Int) * C ≤ 576 := by rw [← Int.natCast_mul]; omega
 have hrc0 : 0 ≤ (R : Int) * C := by rw [← Int.natCast_mul]; omega
 obtain ⟨i0, hi, hz0, hz1, hz2⟩ := info_parts info_int
 have hmk := fun W => run_make_rowN (P := Tryz.prog) 23 3 i0 _ Tryz.underlying23 hi hz0 .i64 .i64 (R * C) (R * C) ((R : Int) * C) ((R : Int) * C) (by rw [Int.natCast_mul]) (by rw [Int.natCast_mul]) (Nat.le_refl _) (by rw [hz2]; omega) (by omega) W
 rw [hz1, Nat.mul_one] at hmk
 have hmc : (madeCells (Value.int .i64 0).cells (R * C)) = ((zeros (R * C)).map (Value.int .i64)).toArray := by
  apply Array.toList_inj.1
  show (madeCells #[Value.int .i64 0] (R * C)).toList = _
  rw [toList_madeCells_one]
  simp [zeros]
 rw [hmc] at hmk
 clear hmc
 go_enter Tryz.func36, Tryz.ntmps36
 go_wp2
 refine bodyPost_ret (v := .agg #[.int .i64 R, .int .i64 C, .slice (some ⟨w.heap.size + 1, 0, none⟩) (R * C) (R * C)]) (by simp [results, Tryz.results36, go_sem]) rfl ⟨w.heap.size + 1, rfl, by omega, ?_, Below.x0⟩
 exact Box.new' _ _ _ _ (by simp)
end Go.Proofs.YtgknjikjjklaiaaGreatDoor
end
