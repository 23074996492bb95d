/- Texts joined: Mat2, Mat3, Mat4, Mat5. -/
import Derived.Test.YtchngeagnlngaaaJ04
import Derived.Deep.RegionHeld3
import Derived.Deep.AppendLies
import Derived.Deep.DrawnRows
import Derived.Deep.DeepMust
import Derived.Deep.RegionLaw
import Derived.BigRegion
import Derived.Test.YtchngeagnlngaaaJ03
import Derived.BigQuiet
import Derived.IntWalk
section
set_option linter.unusedVariables false
set_option linter.unusedSimpArgs false
namespace Go.Proofs.Ytchngeagnlngaaa
open Go.RowKit Gal
attribute [local go_sem ↓] Go.wp_at_zero Go.wp_at_succ
theorem info_int : (Try.prog.info? 3).map (fun i => (i.zero, i.size, i.bytes)) = some (some (.int .i64 0), 1, 8) := by kernel_rfl
set_option maxRecDepth 100000 in
set_option maxHeartbeats 1000000 in
theorem filled_any (R C : Nat) (hR : R ≤ 24) (hC : C ≤ 24) (fid : FuncId) (cs : Array Value) (g : Nat → Nat → Int) (w : World)
  (hcf : ∀ (vs : Array Value) (W : World), (callFunc fid vs).run Try.prog W = .ok (.enter fid vs) W)
  (hg : ∀ (i j : Nat), i < R → j < C → ∀ W, Below w.heap.size w W → Calls Try.prog fid (#[.int .i64 i, .int .i64 j] ++ cs) W fun e W' => e = .returned (.int .i64 (g i j)) ∧ ∃ n, W' = W.drewN n) :
  Calls Try.prog 110 #[.int .i64 R, .int .i64 C, .func (.func fid) #[] cs] w fun e w' =>
   ∃ a cap b, e = .returned (.agg #[.int .i64 R, .int .i64 C, .slice a (R * C : Nat) cap]) ∧ (0 < R * C → w.heap.size ≤ b) ∧ IntsAt w' a (R * C) cap b 0 (grid g C R) ∧ Below w.heap.size w w' := by
 have HG := Lib.hid hg
 clear hg
 have hrc : R * C ≤ 576 := Nat.mul_le_mul hR hC
 have hrc' : (R : Int) * C ≤ 576 := by rw [← Int.natCast_mul]; omega
 have hrc0 : 0 ≤ (R : Int) * C := by rw [← Int.natCast_mul]; omega
 obtain ⟨i0, hi, hz0, hz1, hz2⟩ := info_parts info_int
 have hmk := fun W => run_make_rowN (P := Try.prog) 26 3 i0 _ Try.underlying26 hi hz0 .i64 .i64 0 (R * C) 0 (R * C) rfl (by rw [Int.natCast_mul]) (Nat.zero_le _) (by rw [hz2]; omega) (by omega) W
 rw [hz1, Nat.mul_one] at hmk
 go_enter Try.func110, Try.ntmps110
 go_wp2
 go_loopw [18] (fun i wr => ∃ (k : Nat) (v : Value), k ≤ R ∧ i = .int .i64 k ∧ Below w.heap.size w wr ∧ Box wr w.heap.size [.int .i64 0, .int .i64 0, .slice none 0 0] 28 ∧
   Box wr (w.heap.size + 1 + 1) [.int .i64 R, .int .i64 C, v] 28 ∧ wr.ownsRow (w.heap.size + 1) 3 1 v (k * C) ((grid g C k).map (Value.int .i64))) (fun i _ => R - (intOf i).toNat)
 case atStart =>
  refine ⟨0, .slice (some ⟨w.heap.size + 1, 0, none⟩) 0 (R * C), Nat.zero_le _, rfl, (((Below.refl _ _).alloc (Nat.le_refl _) _).alloc (by simp) _).alloc (by simp; omega) _, ((Box.new _ _ _).alloc _).alloc _, ?_, ?_⟩
  ·exact Box.new' _ _ _ _ (by simp)
  ·rw [Nat.zero_mul]
   exact (own_made (w.alloc _) _ _ _ _ _ _ (by simp) (by simp) (by unfold maxLen; omega) (by rw [size_madeCells]; omega)).alloc _
 case round =>
  obtain ⟨k, v, hk, rfl, hb, hB0, hBM, hown⟩ := hrel
  by_cases hlt : k < R
  ·go_wp2
   obtain ⟨wo, hwo⟩ : ∃ wo : World, wo = wr := ⟨_, rfl⟩
   go_loopw [22] (fun j wi => ∃ (l : Nat) (v : Value), l ≤ C ∧ j = .int .i64 l ∧ Below w.heap.size w wi ∧ Box wi w.heap.size [.int .i64 0, .int .i64 0, .slice none 0 0] 28 ∧
     Box wi (w.heap.size + 1 + 1) [.int .i64 R, .int .i64 C, v] 28 ∧ wi.ownsRow (w.heap.size + 1) 3 1 v (k * C + l) ((gridTo g C k l).map (Value.int .i64))) (fun j _ => C - (intOf j).toNat)
   case atStart => exact ⟨0, v, Nat.zero_le _, rfl, hb, hB0, hBM, by rw [gridTo_zero]; exact hown⟩
   case round =>
    obtain ⟨l, v, hl, rfl, hb, hB0, hBM, hown⟩ := hrel
    by_cases hlt2 : l < C
    ·have c2 := hBM.cell 2
     have f2 := hBM.thawed 2
     go_wp2
     have hvM : some (w.heap.size + 1 + 1) ≠ v.ownBlock := Ne.symm (own_ne hown hBM (by decide))
     have hv0 : some w.heap.size ≠ v.ownBlock := Ne.symm (own_ne hown hB0 (by decide))
     have hM := hBM.lt
     have cA := fun n o => ((hBM.drewN n).alloc o).cell 2
     have hkl : k * C + l < R * C := by
      have := Nat.mul_le_mul_right C (show k + 1 ≤ R by omega)
      rw [Nat.succ_mul] at this
      omega
     go_region_law (first | ((refine at_oper ⟨some 32, _, _, _, _, _⟩ ?_; go_must (refine step_append_lies _ rfl (.tmp 26) (.tmp 31) 26 rfl (w.heap.size + 1) 3 i0 (.int .i64 0) 1 8 Try.underlying26 hi hz0 hz1 hz2 (by rfl) (by decide) v (k * C + l) ((gridTo g C k l).map (Value.int .i64)) (by rfl) (by exact hown.alloc _) ⟨wr.heap.size, 0, none⟩ 1 1 [.int .i64 (g k l)] (by rfl) (by rfl) (World.news_of_block (cs := #[.int .i64 (g k l)]) (by exact heap_alloc_new wr _)) (by simp [Value.oneCell']) (by decide) (by unfold maxLen; omega) (by omega) (by simp; omega) (wr.heap.size + 1) (by simp) ?_); intro g1 cap1 w1 hown1 hgrow hat hlt1; have hB1 := (((hBM.drewN _).alloc _).grown hgrow hvM); have c21 := hB1.cell 2; have f21 := hB1.thawed 2)) | (go_simp; refine (HG.out k l hlt hlt2 _ ?_).mono ?_; (exact hb.drew); rintro e W' ⟨rfl, nd, rfl⟩))
     all_goals (
      go_wp2
      go_roundw
      case rel => exact ⟨l + 1, .slice (some ⟨g1, 0, none⟩) (k * C + l + 1) cap1, by omega, by go_num, (below_append hb (by omega) hown (Nat.le_succ _) hgrow).setCell (by simp; omega) _,
       (((hB0.drewN _).alloc _).grown hgrow hv0).far (by simp; omega) _, hB1.set 2 _, by
        rw [← gridTo_cell, List.map_append]; exact own_set hown1 (own_ne hown1 hB1 (by decide)) _⟩
      case measure => simp [intOf]; omega)
    ·go_wp2
     go_roundw
     case rel =>
      obtain rfl : l = C := by omega
      exact ⟨k + 1, v, by omega, by go_num, hb, hB0, hBM, by rw [Nat.succ_mul, ← gridTo_row]; exact hown⟩
     case measure => simp [intOf]; omega
  ·obtain rfl : k = R := by omega
   obtain ⟨av, cv, rfl⟩ := own_slice hown
   have c0 := hBM.cell 0
   have c1 := hBM.cell 1
   have c2 := hBM.cell 2
   have d0 := hB0.cell 0
   have d1 := hB0.cell 1
   have d2 := hB0.cell 2
   have e0 := hB0.thawed
   have HO := Lib.hid hown
   clear hown
   go_wp2
   obtain ⟨a', c', b', he, hbb, hin⟩ := IntsAt.of_own HO.out
   cases he
   have hd : some w.heap.size ≠ (Value.slice av (k * C) cv).ownBlock := Ne.symm (own_ne HO.out hB0 (by decide))
   refine bodyPost_ret (v := .agg #[.int .i64 k, .int .i64 C, .slice av (k * C) cv]) (by simp [results, Try.results110, go_sem, d0, d1, d2]) rfl ⟨av, cv, b', rfl, ?_, ?_, ?_⟩
   ·intro h0; have := hbb h0; omega
   ·exact ((hin.set (fun h0 => by have := hbb h0; simp; omega) _).set (fun h0 => by have := hbb h0; simp; omega) _).set (fun h0 => by have := hbb h0; simp; omega) _
   ·exact ((hb.setCell (by simp) _).setCell (by simp) _).setCell (by simp) _
end Go.Proofs.Ytchngeagnlngaaa
end
section
set_option linter.unusedVariables false
set_option linter.unusedSimpArgs false
namespace Go.Proofs.Ytchngeagnlngaaa
open Go.RowKit Gal
set_option maxRecDepth 100000 in
set_option maxHeartbeats 1000000 in
theorem mulCell_any (p q : Nat) (ar ac bc : Nat) (aa ba : Option Addr) (acap bcap ab ao bb bo : Nat) (xs ys : List Int) (har : ar ≤ 24) (hac : ac ≤ 12) (hbc : bc ≤ 12) (w : World)
  (hp : Box w p [.int .i64 ar, .int .i64 ac, .slice aa (ar * ac) acap] 28) (hq : Box w q [.int .i64 ac, .int .i64 bc, .slice ba (ac * bc) bcap] 28)
  (hx : IntsAt w aa (ar * ac) acap ab ao xs) (hy : IntsAt w ba (ac * bc) bcap bb bo ys) (i j : Nat) (hi : i < ar) (hj : j < bc) :
  Calls Try.prog 143 #[.int .i64 i, .int .i64 j, .pointer (some ⟨p, 0, none⟩), .pointer (some ⟨q, 0, none⟩)] w fun e w' => e = .returned (.int .i64 (mulCell xs ys ac bc i j)) ∧ ∃ n, w' = w.drewN n := by
 have p1 := hp.cell 1
 have p2 := hp.cell 2
 have q1 := hq.cell 1
 have q2 := hq.cell 2
 go_enter Try.func143, Try.ntmps143
 go_wp2
 go_loopw [7, 11] (fun s c wr => ∃ k n : Nat, k ≤ ac ∧ c = .int .i64 k ∧ s = .int .i64 (sumTo (fun k => mul (ix xs (i * ac + k)) (ix ys (k * bc + j))) k) ∧ wr = w.drewN n) (fun _ c _ => ac - (intOf c).toNat)
 case atStart => exact ⟨0, 0, Nat.zero_le _, rfl, rfl, rfl⟩
 case round =>
  obtain ⟨k, n, hk, rfl, rfl, rfl⟩ := hrel
  by_cases hlt : k < ac
  ·have hia := cell_lt hi hlt
   have hkb := cell_lt hlt hj
   obtain rfl := hx.ptr (by omega)
   obtain rfl := hy.ptr (by omega)
   have ca := hx.cell _ hia
   have cb := hy.cell _ hkb
   have e1 : (i : Int) * ac ≤ 288 := by have := Nat.mul_le_mul (show i ≤ 24 by omega) hac; rw [← Int.natCast_mul]; omega
   have e2 : (k : Int) * bc ≤ 288 := by have := Nat.mul_le_mul (show k ≤ 24 by omega) hbc; rw [← Int.natCast_mul]; omega
   have e3 : (0 : Int) ≤ (i : Int) * ac := by rw [← Int.natCast_mul]; omega
   have e4 : (0 : Int) ≤ (k : Int) * bc := by rw [← Int.natCast_mul]; omega
   have w1 : IntKind.i64.wrap ((i : Int) * ac) = (i : Int) * ac := IntWalk.i64_in _ (by omega)
   have w2 : IntKind.i64.wrap ((k : Int) * bc) = (k : Int) * bc := IntWalk.i64_in _ (by omega)
   have w3 : IntKind.i64.wrap ((i : Int) * ac + k) = (i : Int) * ac + k := IntWalk.i64_in _ (by omega)
   have w4 : IntKind.i64.wrap ((k : Int) * bc + j) = (k : Int) * bc + j := IntWalk.i64_in _ (by omega)
   have x1 : (i : Int) * ac + k < (ar : Int) * ac := by rw [← Int.natCast_mul, ← Int.natCast_mul]; omega
   have x2 : (k : Int) * bc + j < (ac : Int) * bc := by rw [← Int.natCast_mul, ← Int.natCast_mul]; omega
   have x3 : 0 ≤ (i : Int) * ac + k := by omega
   have x4 : 0 ≤ (k : Int) * bc + j := by omega
   have x5 : ((i : Int) * ac + k).toNat = i * ac + k := by rw [← Int.natCast_mul]; omega
   have x6 : ((k : Int) * bc + j).toNat = k * bc + j := by rw [← Int.natCast_mul]; omega
   go_wp2
   go_quiet ((first | (go_at_call 66; first | exact quiet0 (mul_any _ _) | exact quiet1 (mul_any _ _)) | (go_at_call 31; first | exact quiet0 (add_any _ _) | exact quiet1 (add_any _ _))))
   go_wp2
   go_roundw
   case rel => exact ⟨k + 1, _, by omega, by go_num, rfl, rfl⟩
   case measure => simp [intOf]; omega
  ·obtain rfl : k = ac := by omega
   go_wp2
   go_ret
   exact ⟨rfl, _, rfl⟩
theorem turnCell_any (p : Nat) (ar ac : Nat) (aa : Option Addr) (acap ab ao : Nat) (xs : List Int) (har : ar ≤ 24) (hac : ac ≤ 12) (w : World)
  (hp : Box w p [.int .i64 ar, .int .i64 ac, .slice aa (ar * ac : Nat) acap] 28) (hx : IntsAt w aa (ar * ac) acap ab ao xs) (i j : Nat) (hi : i < ac) (hj : j < ar) :
  Calls Try.prog 142 #[.int .i64 i, .int .i64 j, .pointer (some ⟨p, 0, none⟩)] w fun e w' => e = .returned (.int .i64 (ix xs (j * ac + i))) ∧ ∃ n, w' = w.drewN n := by
 have p1 := hp.cell 1
 have p2 := hp.cell 2
 have hji := cell_lt hj hi
 obtain rfl := hx.ptr (by omega)
 have ca := hx.cell _ hji
 have e1 : (j : Int) * ac ≤ 288 := by have := Nat.mul_le_mul (show j ≤ 24 by omega) hac; rw [← Int.natCast_mul]; omega
 have e3 : (0 : Int) ≤ (j : Int) * ac := by rw [← Int.natCast_mul]; omega
 have w1 : IntKind.i64.wrap ((j : Int) * ac) = (j : Int) * ac := IntWalk.i64_in _ (by omega)
 have w3 : IntKind.i64.wrap ((j : Int) * ac + i) = (j : Int) * ac + i := IntWalk.i64_in _ (by omega)
 have x1 : (j : Int) * ac + i < (ar : Int) * ac := by rw [← Int.natCast_mul, ← Int.natCast_mul]; omega
 have x3 : 0 ≤ (j : Int) * ac + i := by omega
 have x5 : ((j : Int) * ac + i).toNat = j * ac + i := by rw [← Int.natCast_mul]; omega
 go_enter Try.func142, Try.ntmps142
 go_wp2
 go_ret
 exact ⟨rfl, 0, rfl⟩
end Go.Proofs.Ytchngeagnlngaaa
end
section
set_option linter.unusedVariables false
set_option linter.unusedSimpArgs false
namespace Go.Proofs.Ytchngeagnlngaaa
open Go.RowKit Gal
set_option maxRecDepth 100000 in
set_option maxHeartbeats 1000000 in
theorem check_any (a : Option Addr) (n cap b off : Nat) (ms : List Mat) (w : World) (hm : MatsAt w a n cap b off ms) :
  Calls Try.prog 109 #[.slice a n cap] w fun e w' => e = .returned (errV (firstFault ms)) ∧ Below w.heap.size w w' := by
 have hl := hm.len
 have hmx := hm.max
 unfold maxLen at hmx
 go_enter Try.func109, Try.ntmps109
 go_wp2
 go_loopw [8] (fun i wr => ∃ k : Nat, k ≤ n ∧ i = .int .i64 k ∧ Below w.heap.size w wr ∧ ∀ j, j < k → (mx ms j).fault = 0) (fun i _ => n - (intOf i).toNat)
 case atStart => exact ⟨0, Nat.zero_le _, rfl, Below.refl _ _, fun j hj => absurd hj (Nat.not_lt_zero _)⟩
 case round =>
  obtain ⟨k, hk, rfl, hb, hpre⟩ := hrel
  have HP := Lib.hid hpre
  clear hpre
  by_cases hlt : k < n
  ·obtain rfl := hm.ptr (by omega)
   have hbs := hm.lt (by omega)
   obtain ⟨a', n', cap', b', off', m0, m1, m2, hb', hi⟩ := hm.cell k hlt
   have c0 := (hb.cell (p := ⟨b, off + k * 3, none⟩) hbs).trans m0
   have c1 := (hb.cell (p := ⟨b, off + k * 3 + 1, none⟩) hbs).trans m1
   have c2 := (hb.cell (p := ⟨b, off + k * 3 + 2, none⟩) hbs).trans m2
   clear m0 m1 m2
   by_cases hf : (mx ms k).fault = 0
   ·have hE : errV (matFault (mx ms k).rows (mx ms k).cols (mx ms k).cells) = .nilIface := errV_nil hf
    have HF := Lib.hid hf
    clear hf
    go_wp2_with fail
    refine (matCheck_any (mx ms k).rows (mx ms k).cols a' n' cap' b' off' (mx ms k).cells _ ((hi.below hb hb').alloc _)).mono ?_
    rintro e w1 ⟨rfl, hb1⟩
    go_wp2
    go_roundw
    case rel => exact ⟨k + 1, by omega, by go_num, (hb.alloc hb.size _).trans (hb1.mono (by simp; have := hb.size; omega)), fun j hj => by
     by_cases e : j = k
     ·rw [e]; exact HF.out
     ·exact HP.out j (by omega)⟩
    case measure => simp [intOf]; omega
   ·have hE : errV (matFault (mx ms k).rows (mx ms k).cols (mx ms k).cells) = .iface 62 (.int .i64 (matFault (mx ms k).rows (mx ms k).cols (mx ms k).cells)) := errV_err hf
    have HF := Lib.hid hf
    clear hf
    go_wp2_with fail
    refine (matCheck_any (mx ms k).rows (mx ms k).cols a' n' cap' b' off' (mx ms k).cells _ ((hi.below hb hb').alloc _)).mono ?_
    rintro e w1 ⟨rfl, hb1⟩
    go_wp2
    go_ret
    refine ⟨ret_val ?_, (hb.alloc hb.size _).trans (hb1.mono (by simp; have := hb.size; omega))⟩
    rw [firstFault_at (by rw [hl]; exact hlt) (fun j hj => HP.out j hj) HF.out, errV_err HF.out]
    rfl
  ·go_wp2
   go_ret
   refine ⟨ret_val ?_, hb⟩
   rw [firstFault_none (fun j hj => HP.out j (by omega)), errV_nil rfl]
   rfl
end Go.Proofs.Ytchngeagnlngaaa
end
section
set_option linter.unusedVariables false
set_option linter.unusedSimpArgs false
namespace Go.Proofs.Ytchngeagnlngaaa
open Go.RowKit Gal
theorem cf_mul (vs : Array Value) (W : World) : (callFunc 143 vs).run Try.prog W = .ok (.enter 143 vs) W := by kernel_rfl
set_option maxRecDepth 100000 in
set_option maxHeartbeats 1000000 in
theorem matMul_new (ma mb : Mat) (va vb : Value) (w : World) (ha : MatAt w va ma) (hb : MatAt w vb mb) (hf : mulFault ma mb = 0) :
  Calls Try.prog 139 #[va, vb] w fun e w' => ∃ v, e = .returned (.tuple #[v, .nilIface]) ∧ MatNew w.heap.size w' v (matMul ma mb) ∧ Below w.heap.size w w' := by
 obtain ⟨hc, hcr⟩ := mulFault_ok hf
 obtain ⟨fa, fb⟩ := firstFault_two.1 hc
 obtain ⟨R, K, eR, eK, hR, hK, hla, hea⟩ := matFault_ok fa
 obtain ⟨K', C, eK', eC, hK', hC, hlb, heb⟩ := matFault_ok fb
 obtain ⟨mar, mac, xs⟩ := ma
 obtain ⟨mbr, mbc, ys⟩ := mb
 dsimp only at eR eK eK' eC hcr hla hlb
 subst eR eK eK' eC
 obtain rfl : K = K' := by omega
 clear hcr hea heb
 obtain ⟨a0, n0, k0, b0, o0, rfl, h0⟩ := ha
 obtain ⟨a1, n1, k1, b1, o1, rfl, h1⟩ := hb
 obtain rfl : R * K = n0 := by rw [← hla]; exact h0.len
 obtain rfl : K * C = n1 := by rw [← hlb]; exact h1.len
 dsimp only at h0 h1
 have hE : errV (firstFault [⟨R, K, xs⟩, ⟨K, C, ys⟩]) = .nilIface := errV_nil hc
 clear hf hc fa fb hla hlb
 go_enter Try.func139, Try.ntmps139
 go_wp2_with fail
 refine (check_any _ _ _ _ _ [⟨R, K, xs⟩, ⟨K, C, ys⟩] _ (mats2 (Box.new' _ _ _ _ (by simp)) (h0.alloc _ |>.alloc _ |>.alloc _ |>.alloc _) (h1.alloc _ |>.alloc _ |>.alloc _ |>.alloc _))).mono ?_
 rintro e w1 ⟨rfl, hb1⟩
 have B2 := (((Box.new' _ w.heap.size _ _ (by simp)).alloc _).alloc _ |>.alloc _).keep hb1
 have B2c := B2.cell
 have B2f := B2.thawed
 have B2z := B2.lt
 have B2k := lt_add B2z
 have B3 := ((Box.new' _ (w.heap.size + 1) _ _ (by simp)).alloc _ |>.alloc _).keep hb1
 have B3c := B3.cell
 have B3f := B3.thawed
 have B3z := B3.lt
 have B3k := lt_add B3z
 have B4 := ((Box.new' _ (w.heap.size + 1 + 1) _ _ (by simp)).alloc _).keep hb1
 have B4c := B4.cell
 have B4f := B4.thawed
 have B4z := B4.lt
 have B4k := lt_add B4z
 have z1 := hb1.size
 simp at z1
 go_wp2_with fail
 have x0 := (h0.alloc _ |>.alloc _ |>.alloc _ |>.alloc _).keep hb1
 have x1 := (h1.alloc _ |>.alloc _ |>.alloc _ |>.alloc _).keep hb1
 refine (filled_any R C hR (by omega) 143 #[.pointer (some ⟨w.heap.size, 0, none⟩), .pointer (some ⟨w.heap.size + 1, 0, none⟩)] (mulCell xs ys K C) _ cf_mul ?_).mono ?_
 ·intro i j hi hj W hW
  exact mulCell_any _ _ R K C _ _ _ _ _ _ _ _ xs ys hR hK hC W (B2.keep hW) (B3.keep hW) (x0.keep hW) (x1.keep hW) i j hi hj
 ·rintro e w2 ⟨a2, k2, b2, rfl, hn2, hi2, hb2⟩
  have C4 := B4.keep hb2
  have C4c := C4.cell
  have C4f := C4.thawed
  have C4z := C4.lt
  have C4k := lt_add C4z
  go_wp2
  refine bodyPost_ret (v := .tuple #[.agg #[.int .i64 R, .int .i64 C, .slice a2 (R * C) k2], .nilIface]) (by simp [results, Try.results139, go_sem, C4c]) rfl ⟨_, rfl, MatNew.mk (fun h => by have := hn2 h; omega) (hi2.set3 (fun h => by have := hn2 h; omega) _ _ _), (Below.x2 hb2 hb1)⟩
theorem matMul_ok (ma mb : Mat) (va vb : Value) (w : World) (ha : MatAt w va ma) (hb : MatAt w vb mb) (hf : mulFault ma mb = 0) :
  Calls Try.prog 139 #[va, vb] w fun e w' => ∃ v, e = .returned (.tuple #[v, .nilIface]) ∧ MatAt w' v (matMul ma mb) ∧ Below w.heap.size w w' :=
 (matMul_new ma mb va vb w ha hb hf).mono fun _ _ ⟨v, h1, h2, h3⟩ => ⟨v, h1, h2.at, h3⟩
end Go.Proofs.Ytchngeagnlngaaa
end
