/- Texts joined: Mat4, Mat5, Same, Blank. -/
import Derived.Test.YtgknjikjjklaiaaJ06
import Derived.Test.YtgknjikjjklaiaaJ10
import Derived.Test.YtgknjikjjklaiaaJ04
import Derived.Test.YtgknjikjjklaiaaJ01
import Derived.BigQuiet
import Derived.IntWalk
import Derived.RegionTactic
section
set_option linter.unusedVariables false
set_option linter.unusedSimpArgs false
namespace Go.Proofs.Ytgknjikjjklaiaa
open Go.RowKit Gal
set_option maxRecDepth 100000 in
set_option maxHeartbeats 1000000 in
theorem check_any (a : Option Addr) (n cap b off : Nat) (ms : List Mat) (w : World) (hm : MatsAt w a n cap b off ms) :
  Calls Try.prog 52 #[.slice a n cap] w fun e w' => e = .returned (errV (firstFault ms)) ∧ Below w.heap.size w w' := by
 have hl := hm.len
 have hmx := hm.max
 unfold maxLen at hmx
 go_enter Try.func52, Try.ntmps52
 go_wp2
 go_loopw [8] (fun i wr => ∃ k : Nat, k ≤ n ∧ i = .int .i64 k ∧ Below w.heap.size w wr ∧ ∀ j, j < k → (mx ms j).fault = 0) (fun i _ => n - (intOf i).toNat)
 case atStart => exact ⟨0, Nat.zero_le _, rfl, Below.refl _ _, fun j hj => absurd hj (Nat.not_lt_zero _)⟩
 case round =>
  obtain ⟨k, hk, rfl, hb, hpre⟩ := hrel
  have HP := Lib.hid hpre
  clear hpre
  by_cases hlt : k < n
  ·obtain rfl := hm.ptr (by omega)
   have hbs := hm.lt (by omega)
   obtain ⟨a', n', cap', b', off', m0, m1, m2, hb', hi⟩ := hm.cell k hlt
   have c0 := (hb.cell (p := ⟨b, off + k * 3, none⟩) hbs).trans m0
   have c1 := (hb.cell (p := ⟨b, off + k * 3 + 1, none⟩) hbs).trans m1
   have c2 := (hb.cell (p := ⟨b, off + k * 3 + 2, none⟩) hbs).trans m2
   clear m0 m1 m2
   by_cases hf : (mx ms k).fault = 0
   ·have hE : errV (matFault (mx ms k).rows (mx ms k).cols (mx ms k).cells) = .nilIface := errV_nil hf
    have HF := Lib.hid hf
    clear hf
    go_wp2_with fail
    refine (matCheck_any (mx ms k).rows (mx ms k).cols a' n' cap' b' off' (mx ms k).cells _ ((hi.below hb hb').alloc _)).mono ?_
    rintro e w1 ⟨rfl, hb1⟩
    go_wp2
    go_roundw
    case rel => exact ⟨k + 1, by omega, by go_num, (hb.alloc hb.size _).trans (hb1.mono (by simp; have := hb.size; omega)), fun j hj => by
     by_cases e : j = k
     ·rw [e]; exact HF.out
     ·exact HP.out j (by omega)⟩
    case measure => simp [intOf]; omega
   ·have hE : errV (matFault (mx ms k).rows (mx ms k).cols (mx ms k).cells) = .iface 56 (.int .i64 (matFault (mx ms k).rows (mx ms k).cols (mx ms k).cells)) := errV_err hf
    have HF := Lib.hid hf
    clear hf
    go_wp2_with fail
    refine (matCheck_any (mx ms k).rows (mx ms k).cols a' n' cap' b' off' (mx ms k).cells _ ((hi.below hb hb').alloc _)).mono ?_
    rintro e w1 ⟨rfl, hb1⟩
    go_wp2
    go_ret
    refine ⟨ret_val ?_, (hb.alloc hb.size _).trans (hb1.mono (by simp; have := hb.size; omega))⟩
    rw [firstFault_at (by rw [hl]; exact hlt) (fun j hj => HP.out j hj) HF.out, errV_err HF.out]
    rfl
  ·go_wp2
   go_ret
   refine ⟨ret_val ?_, hb⟩
   rw [firstFault_none (fun j hj => HP.out j (by omega)), errV_nil rfl]
   rfl
end Go.Proofs.Ytgknjikjjklaiaa
end
section
set_option linter.unusedVariables false
set_option linter.unusedSimpArgs false
namespace Go.Proofs.Ytgknjikjjklaiaa
open Go.RowKit Gal
theorem cf_mul (vs : Array Value) (W : World) : (callFunc 82 vs).run Try.prog W = .ok (.enter 82 vs) W := by kernel_rfl
set_option maxRecDepth 100000 in
set_option maxHeartbeats 1000000 in
theorem matMul_new (ma mb : Mat) (va vb : Value) (w : World) (ha : MatAt w va ma) (hb : MatAt w vb mb) (hf : mulFault ma mb = 0) :
  Calls Try.prog 78 #[va, vb] w fun e w' => ∃ v, e = .returned (.tuple #[v, .nilIface]) ∧ MatNew w.heap.size w' v (matMul ma mb) ∧ Below w.heap.size w w' := by
 obtain ⟨hc, hcr⟩ := mulFault_ok hf
 obtain ⟨fa, fb⟩ := firstFault_two.1 hc
 obtain ⟨R, K, eR, eK, hR, hK, hla, hea⟩ := matFault_ok fa
 obtain ⟨K', C, eK', eC, hK', hC, hlb, heb⟩ := matFault_ok fb
 obtain ⟨mar, mac, xs⟩ := ma
 obtain ⟨mbr, mbc, ys⟩ := mb
 dsimp only at eR eK eK' eC hcr hla hlb
 subst eR eK eK' eC
 obtain rfl : K = K' := by omega
 clear hcr hea heb
 obtain ⟨a0, n0, k0, b0, o0, rfl, h0⟩ := ha
 obtain ⟨a1, n1, k1, b1, o1, rfl, h1⟩ := hb
 obtain rfl : R * K = n0 := by rw [← hla]; exact h0.len
 obtain rfl : K * C = n1 := by rw [← hlb]; exact h1.len
 dsimp only at h0 h1
 have hE : errV (firstFault [⟨R, K, xs⟩, ⟨K, C, ys⟩]) = .nilIface := errV_nil hc
 clear hf hc fa fb hla hlb
 go_enter Try.func78, Try.ntmps78
 go_wp2_with fail
 refine (check_any _ _ _ _ _ [⟨R, K, xs⟩, ⟨K, C, ys⟩] _ (mats2 (Box.new' _ _ _ _ (by simp)) (h0.alloc _ |>.alloc _ |>.alloc _ |>.alloc _) (h1.alloc _ |>.alloc _ |>.alloc _ |>.alloc _))).mono ?_
 rintro e w1 ⟨rfl, hb1⟩
 have B2 := (((Box.new' _ w.heap.size _ _ (by simp)).alloc _).alloc _ |>.alloc _).keep hb1
 have B2c := B2.cell
 have B2f := B2.thawed
 have B2z := B2.lt
 have B2k := lt_add B2z
 have B3 := ((Box.new' _ (w.heap.size + 1) _ _ (by simp)).alloc _ |>.alloc _).keep hb1
 have B3c := B3.cell
 have B3f := B3.thawed
 have B3z := B3.lt
 have B3k := lt_add B3z
 have B4 := ((Box.new' _ (w.heap.size + 1 + 1) _ _ (by simp)).alloc _).keep hb1
 have B4c := B4.cell
 have B4f := B4.thawed
 have B4z := B4.lt
 have B4k := lt_add B4z
 have z1 := hb1.size
 simp at z1
 go_wp2_with fail
 have x0 := (h0.alloc _ |>.alloc _ |>.alloc _ |>.alloc _).keep hb1
 have x1 := (h1.alloc _ |>.alloc _ |>.alloc _ |>.alloc _).keep hb1
 refine (filled_any R C hR (by omega) 82 #[.pointer (some ⟨w.heap.size, 0, none⟩), .pointer (some ⟨w.heap.size + 1, 0, none⟩)] (mulCell xs ys K C) _ cf_mul ?_).mono ?_
 ·intro i j hi hj W hW
  exact mulCell_any _ _ R K C _ _ _ _ _ _ _ _ xs ys hR hK hC W (B2.keep hW) (B3.keep hW) (x0.keep hW) (x1.keep hW) i j hi hj
 ·rintro e w2 ⟨a2, k2, b2, rfl, hn2, hi2, hb2⟩
  have C4 := B4.keep hb2
  have C4c := C4.cell
  have C4f := C4.thawed
  have C4z := C4.lt
  have C4k := lt_add C4z
  go_wp2
  refine bodyPost_ret (v := .tuple #[.agg #[.int .i64 R, .int .i64 C, .slice a2 (R * C) k2], .nilIface]) (by simp [results, Try.results78, go_sem, C4c]) rfl ⟨_, rfl, MatNew.mk (fun h => by have := hn2 h; omega) (hi2.set3 (fun h => by have := hn2 h; omega) _ _ _), (Below.x2 hb2 hb1)⟩
theorem matMul_ok (ma mb : Mat) (va vb : Value) (w : World) (ha : MatAt w va ma) (hb : MatAt w vb mb) (hf : mulFault ma mb = 0) :
  Calls Try.prog 78 #[va, vb] w fun e w' => ∃ v, e = .returned (.tuple #[v, .nilIface]) ∧ MatAt w' v (matMul ma mb) ∧ Below w.heap.size w w' :=
 (matMul_new ma mb va vb w ha hb hf).mono fun _ _ ⟨v, h1, h2, h3⟩ => ⟨v, h1, h2.at, h3⟩
end Go.Proofs.Ytgknjikjjklaiaa
end
section
set_option linter.unusedVariables false
set_option linter.unusedSimpArgs false
namespace Go.Proofs.Ytgknjikjjklaiaa
open Go.RowKit Gal
set_option maxRecDepth 100000 in
set_option maxHeartbeats 1000000 in
theorem matrices_any (ma mb : Mat) (va vb : Value) (w : World) (ha : MatAt w va ma) (hb : MatAt w vb mb) :
  Calls Try.prog 21 #[va, vb] w fun e w' => e = .returned (.bool (decide (ma = mb))) ∧ Below w.heap.size w w' := by
 obtain ⟨r0, c0, xs⟩ := ma
 obtain ⟨r1, c1, ys⟩ := mb
 obtain ⟨a0, n0, k0, b0, o0, rfl, h0⟩ := ha
 obtain ⟨a1, n1, k1, b1, o1, rfl, h1⟩ := hb
 dsimp only at h0 h1
 by_cases h : r0 = r1 ∧ c0 = c1
 ·obtain ⟨rfl, rfl⟩ := h
  have e1 : (r0 != r0) = false := by simp
  have e2 : (c0 != c0) = false := by simp
  go_enter Try.func21, Try.ntmps21
  go_wp2_with fail
  refine (ints_any _ _ _ _ _ _ _ _ _ _ xs ys _ (h0.alloc _ |>.alloc _) (h1.alloc _ |>.alloc _)).mono ?_
  rintro e w1 ⟨rfl, m, rfl⟩
  go_wp2
  go_ret
  refine ⟨ret_val ?_, Below.x0⟩
  simp [go_sem]
 ·have hd : decide ((⟨r0, c0, xs⟩ : Mat) = ⟨r1, c1, ys⟩) = false := decide_eq_false (fun e => h (by simp only [Mat.mk.injEq] at e; exact ⟨e.1, e.2.1⟩))
  rw [hd]
  clear hd
  by_cases hr : r0 = r1
  ·subst hr
   have e1 : (r0 != r0) = false := by simp
   have e2 : (c0 != c1) = true := by simp; intro e; exact h ⟨rfl, e⟩
   clear h
   go_enter Try.func21, Try.ntmps21
   go_wp2
   go_ret
   exact ⟨rfl, Below.x0⟩
  ·have e1 : (r0 != r1) = true := by simp [hr]
   clear h hr
   go_enter Try.func21, Try.ntmps21
   go_wp2
   go_ret
   exact ⟨rfl, Below.x0⟩
end Go.Proofs.Ytgknjikjjklaiaa
end
section
set_option linter.unusedVariables false
set_option linter.unusedSimpArgs false
namespace Go.Proofs.Ytgknjikjjklaiaa
open Go.RowKit Gal
theorem ints_box {w : World} {b : Nat} {xs : List Int} {t : TypeId} (h : Box w b (xs.map (Value.int .i64)) t) (hl : xs.length ≤ maxLen) : IntsAt w (some ⟨b, 0, none⟩) xs.length xs.length b 0 xs := by
 refine ⟨rfl, Nat.le_refl _, hl, fun _ => rfl, fun _ => h.lt, fun i hi => ?_⟩
 rw [Nat.zero_add, h.cell]
 unfold ix
 rw [List.getElem?_map, List.getElem?_eq_getElem hi]
 rfl
end Go.Proofs.Ytgknjikjjklaiaa
end
