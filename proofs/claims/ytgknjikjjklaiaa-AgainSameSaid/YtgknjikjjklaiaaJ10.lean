/- Texts joined: Mat2, Mat3. -/
import Derived.Test.YtgknjikjjklaiaaJ06
import Derived.Deep.RegionHeld3
import Derived.Deep.AppendLies
import Derived.Deep.DrawnRows
import Derived.Deep.DeepMust
import Derived.Deep.RegionLaw
import Derived.BigRegion
import Derived.Test.YtgknjikjjklaiaaJ04
import Derived.BigQuiet
import Derived.IntWalk
section
set_option linter.unusedVariables false
set_option linter.unusedSimpArgs false
namespace Go.Proofs.Ytgknjikjjklaiaa
open Go.RowKit Gal
attribute [local go_sem ↓] Go.wp_at_zero Go.wp_at_succ
theorem info_int : (Try.prog.info? 3).map (fun i => (i.zero, i.size, i.bytes)) = some (some (.int .i64 0), 1, 8) := by kernel_rfl
set_option maxRecDepth 100000 in
set_option maxHeartbeats 1000000 in
theorem filled_any (R C : Nat) (hR : R ≤ 24) (hC : C ≤ 24) (fid : FuncId) (cs : Array Value) (g : Nat → Nat → Int) (w : World)
  (hcf : ∀ (vs : Array Value) (W : World), (callFunc fid vs).run Try.prog W = .ok (.enter fid vs) W)
  (hg : ∀ (i j : Nat), i < R → j < C → ∀ W, Below w.heap.size w W → Calls Try.prog fid (#[.int .i64 i, .int .i64 j] ++ cs) W fun e W' => e = .returned (.int .i64 (g i j)) ∧ ∃ n, W' = W.drewN n) :
  Calls Try.prog 53 #[.int .i64 R, .int .i64 C, .func (.func fid) #[] cs] w fun e w' =>
   ∃ a cap b, e = .returned (.agg #[.int .i64 R, .int .i64 C, .slice a (R * C : Nat) cap]) ∧ (0 < R * C → w.heap.size ≤ b) ∧ IntsAt w' a (R * C) cap b 0 (grid g C R) ∧ Below w.heap.size w w' := by
 have HG := Lib.hid hg
 clear hg
 have hrc : R * C ≤ 576 := Nat.mul_le_mul hR hC
 have hrc' : (R : Int) * C ≤ 576 := by rw [← Int.natCast_mul]; omega
 have hrc0 : 0 ≤ (R : Int) * C := by rw [← Int.natCast_mul]; omega
 obtain ⟨i0, hi, hz0, hz1, hz2⟩ := info_parts info_int
 have hmk := fun W => run_make_rowN (P := Try.prog) 23 3 i0 _ Try.underlying23 hi hz0 .i64 .i64 0 (R * C) 0 (R * C) rfl (by rw [Int.natCast_mul]) (Nat.zero_le _) (by rw [hz2]; omega) (by omega) W
 rw [hz1, Nat.mul_one] at hmk
 go_enter Try.func53, Try.ntmps53
 go_wp2
 go_loopw [18] (fun i wr => ∃ (k : Nat) (v : Value), k ≤ R ∧ i = .int .i64 k ∧ Below w.heap.size w wr ∧ Box wr w.heap.size [.int .i64 0, .int .i64 0, .slice none 0 0] 25 ∧
   Box wr (w.heap.size + 1 + 1) [.int .i64 R, .int .i64 C, v] 25 ∧ wr.ownsRow (w.heap.size + 1) 3 1 v (k * C) ((grid g C k).map (Value.int .i64))) (fun i _ => R - (intOf i).toNat)
 case atStart =>
  refine ⟨0, .slice (some ⟨w.heap.size + 1, 0, none⟩) 0 (R * C), Nat.zero_le _, rfl, (((Below.refl _ _).alloc (Nat.le_refl _) _).alloc (by simp) _).alloc (by simp; omega) _, ((Box.new _ _ _).alloc _).alloc _, ?_, ?_⟩
  ·exact Box.new' _ _ _ _ (by simp)
  ·rw [Nat.zero_mul]
   exact (own_made (w.alloc _) _ _ _ _ _ _ (by simp) (by simp) (by unfold maxLen; omega) (by rw [size_madeCells]; omega)).alloc _
 case round =>
  obtain ⟨k, v, hk, rfl, hb, hB0, hBM, hown⟩ := hrel
  by_cases hlt : k < R
  ·go_wp2
   obtain ⟨wo, hwo⟩ : ∃ wo : World, wo = wr := ⟨_, rfl⟩
   go_loopw [22] (fun j wi => ∃ (l : Nat) (v : Value), l ≤ C ∧ j = .int .i64 l ∧ Below w.heap.size w wi ∧ Box wi w.heap.size [.int .i64 0, .int .i64 0, .slice none 0 0] 25 ∧
     Box wi (w.heap.size + 1 + 1) [.int .i64 R, .int .i64 C, v] 25 ∧ wi.ownsRow (w.heap.size + 1) 3 1 v (k * C + l) ((gridTo g C k l).map (Value.int .i64))) (fun j _ => C - (intOf j).toNat)
   case atStart => exact ⟨0, v, Nat.zero_le _, rfl, hb, hB0, hBM, by rw [gridTo_zero]; exact hown⟩
   case round =>
    obtain ⟨l, v, hl, rfl, hb, hB0, hBM, hown⟩ := hrel
    by_cases hlt2 : l < C
    ·have c2 := hBM.cell 2
     have f2 := hBM.thawed 2
     go_wp2
     have hvM : some (w.heap.size + 1 + 1) ≠ v.ownBlock := Ne.symm (own_ne hown hBM (by decide))
     have hv0 : some w.heap.size ≠ v.ownBlock := Ne.symm (own_ne hown hB0 (by decide))
     have hM := hBM.lt
     have cA := fun n o => ((hBM.drewN n).alloc o).cell 2
     have hkl : k * C + l < R * C := by
      have := Nat.mul_le_mul_right C (show k + 1 ≤ R by omega)
      rw [Nat.succ_mul] at this
      omega
     go_region_law (first | ((refine at_oper ⟨some 32, _, _, _, _, _⟩ ?_; go_must (refine step_append_lies _ rfl (.tmp 26) (.tmp 31) 23 rfl (w.heap.size + 1) 3 i0 (.int .i64 0) 1 8 Try.underlying23 hi hz0 hz1 hz2 (by rfl) (by decide) v (k * C + l) ((gridTo g C k l).map (Value.int .i64)) (by rfl) (by exact hown.alloc _) ⟨wr.heap.size, 0, none⟩ 1 1 [.int .i64 (g k l)] (by rfl) (by rfl) (World.news_of_block (cs := #[.int .i64 (g k l)]) (by exact heap_alloc_new wr _)) (by simp [Value.oneCell']) (by decide) (by unfold maxLen; omega) (by omega) (by simp; omega) (wr.heap.size + 1) (by simp) ?_); intro g1 cap1 w1 hown1 hgrow hat hlt1; have hB1 := (((hBM.drewN _).alloc _).grown hgrow hvM); have c21 := hB1.cell 2; have f21 := hB1.thawed 2)) | (go_simp; refine (HG.out k l hlt hlt2 _ ?_).mono ?_; (exact hb.drew); rintro e W' ⟨rfl, nd, rfl⟩))
     all_goals (
      go_wp2
      go_roundw
      case rel => exact ⟨l + 1, .slice (some ⟨g1, 0, none⟩) (k * C + l + 1) cap1, by omega, by go_num, (below_append hb (by omega) hown (Nat.le_succ _) hgrow).setCell (by simp; omega) _,
       (((hB0.drewN _).alloc _).grown hgrow hv0).far (by simp; omega) _, hB1.set 2 _, by
        rw [← gridTo_cell, List.map_append]; exact own_set hown1 (own_ne hown1 hB1 (by decide)) _⟩
      case measure => simp [intOf]; omega)
    ·go_wp2
     go_roundw
     case rel =>
      obtain rfl : l = C := by omega
      exact ⟨k + 1, v, by omega, by go_num, hb, hB0, hBM, by rw [Nat.succ_mul, ← gridTo_row]; exact hown⟩
     case measure => simp [intOf]; omega
  ·obtain rfl : k = R := by omega
   obtain ⟨av, cv, rfl⟩ := own_slice hown
   have c0 := hBM.cell 0
   have c1 := hBM.cell 1
   have c2 := hBM.cell 2
   have d0 := hB0.cell 0
   have d1 := hB0.cell 1
   have d2 := hB0.cell 2
   have e0 := hB0.thawed
   have HO := Lib.hid hown
   clear hown
   go_wp2
   obtain ⟨a', c', b', he, hbb, hin⟩ := IntsAt.of_own HO.out
   cases he
   have hd : some w.heap.size ≠ (Value.slice av (k * C) cv).ownBlock := Ne.symm (own_ne HO.out hB0 (by decide))
   refine bodyPost_ret (v := .agg #[.int .i64 k, .int .i64 C, .slice av (k * C) cv]) (by simp [results, Try.results53, go_sem, d0, d1, d2]) rfl ⟨av, cv, b', rfl, ?_, ?_, ?_⟩
   ·intro h0; have := hbb h0; omega
   ·exact ((hin.set (fun h0 => by have := hbb h0; simp; omega) _).set (fun h0 => by have := hbb h0; simp; omega) _).set (fun h0 => by have := hbb h0; simp; omega) _
   ·exact ((hb.setCell (by simp) _).setCell (by simp) _).setCell (by simp) _
end Go.Proofs.Ytgknjikjjklaiaa
end
section
set_option linter.unusedVariables false
set_option linter.unusedSimpArgs false
namespace Go.Proofs.Ytgknjikjjklaiaa
open Go.RowKit Gal
set_option maxRecDepth 100000 in
set_option maxHeartbeats 1000000 in
theorem mulCell_any (p q : Nat) (ar ac bc : Nat) (aa ba : Option Addr) (acap bcap ab ao bb bo : Nat) (xs ys : List Int) (har : ar ≤ 24) (hac : ac ≤ 12) (hbc : bc ≤ 12) (w : World)
  (hp : Box w p [.int .i64 ar, .int .i64 ac, .slice aa (ar * ac) acap] 25) (hq : Box w q [.int .i64 ac, .int .i64 bc, .slice ba (ac * bc) bcap] 25)
  (hx : IntsAt w aa (ar * ac) acap ab ao xs) (hy : IntsAt w ba (ac * bc) bcap bb bo ys) (i j : Nat) (hi : i < ar) (hj : j < bc) :
  Calls Try.prog 82 #[.int .i64 i, .int .i64 j, .pointer (some ⟨p, 0, none⟩), .pointer (some ⟨q, 0, none⟩)] w fun e w' => e = .returned (.int .i64 (mulCell xs ys ac bc i j)) ∧ ∃ n, w' = w.drewN n := by
 have p1 := hp.cell 1
 have p2 := hp.cell 2
 have q1 := hq.cell 1
 have q2 := hq.cell 2
 go_enter Try.func82, Try.ntmps82
 go_wp2
 go_loopw [7, 11] (fun s c wr => ∃ k n : Nat, k ≤ ac ∧ c = .int .i64 k ∧ s = .int .i64 (sumTo (fun k => mul (ix xs (i * ac + k)) (ix ys (k * bc + j))) k) ∧ wr = w.drewN n) (fun _ c _ => ac - (intOf c).toNat)
 case atStart => exact ⟨0, 0, Nat.zero_le _, rfl, rfl, rfl⟩
 case round =>
  obtain ⟨k, n, hk, rfl, rfl, rfl⟩ := hrel
  by_cases hlt : k < ac
  ·have hia := cell_lt hi hlt
   have hkb := cell_lt hlt hj
   obtain rfl := hx.ptr (by omega)
   obtain rfl := hy.ptr (by omega)
   have ca := hx.cell _ hia
   have cb := hy.cell _ hkb
   have e1 : (i : Int) * ac ≤ 288 := by have := Nat.mul_le_mul (show i ≤ 24 by omega) hac; rw [← Int.natCast_mul]; omega
   have e2 : (k : Int) * bc ≤ 288 := by have := Nat.mul_le_mul (show k ≤ 24 by omega) hbc; rw [← Int.natCast_mul]; omega
   have e3 : (0 : Int) ≤ (i : Int) * ac := by rw [← Int.natCast_mul]; omega
   have e4 : (0 : Int) ≤ (k : Int) * bc := by rw [← Int.natCast_mul]; omega
   have w1 : IntKind.i64.wrap ((i : Int) * ac) = (i : Int) * ac := IntWalk.i64_in _ (by omega)
   have w2 : IntKind.i64.wrap ((k : Int) * bc) = (k : Int) * bc := IntWalk.i64_in _ (by omega)
   have w3 : IntKind.i64.wrap ((i : Int) * ac + k) = (i : Int) * ac + k := IntWalk.i64_in _ (by omega)
   have w4 : IntKind.i64.wrap ((k : Int) * bc + j) = (k : Int) * bc + j := IntWalk.i64_in _ (by omega)
   have x1 : (i : Int) * ac + k < (ar : Int) * ac := by rw [← Int.natCast_mul, ← Int.natCast_mul]; omega
   have x2 : (k : Int) * bc + j < (ac : Int) * bc := by rw [← Int.natCast_mul, ← Int.natCast_mul]; omega
   have x3 : 0 ≤ (i : Int) * ac + k := by omega
   have x4 : 0 ≤ (k : Int) * bc + j := by omega
   have x5 : ((i : Int) * ac + k).toNat = i * ac + k := by rw [← Int.natCast_mul]; omega
   have x6 : ((k : Int) * bc + j).toNat = k * bc + j := by rw [← Int.natCast_mul]; omega
   go_wp2
   go_quiet ((first | (go_at_call 32; first | exact quiet0 (mul_any _ _) | exact quiet1 (mul_any _ _)) | (go_at_call 30; first | exact quiet0 (add_any _ _) | exact quiet1 (add_any _ _))))
   go_wp2
   go_roundw
   case rel => exact ⟨k + 1, _, by omega, by go_num, rfl, rfl⟩
   case measure => simp [intOf]; omega
  ·obtain rfl : k = ac := by omega
   go_wp2
   go_ret
   exact ⟨rfl, _, rfl⟩
theorem turnCell_any (p : Nat) (ar ac : Nat) (aa : Option Addr) (acap ab ao : Nat) (xs : List Int) (har : ar ≤ 24) (hac : ac ≤ 12) (w : World)
  (hp : Box w p [.int .i64 ar, .int .i64 ac, .slice aa (ar * ac : Nat) acap] 25) (hx : IntsAt w aa (ar * ac) acap ab ao xs) (i j : Nat) (hi : i < ac) (hj : j < ar) :
  Calls Try.prog 81 #[.int .i64 i, .int .i64 j, .pointer (some ⟨p, 0, none⟩)] w fun e w' => e = .returned (.int .i64 (ix xs (j * ac + i))) ∧ ∃ n, w' = w.drewN n := by
 have p1 := hp.cell 1
 have p2 := hp.cell 2
 have hji := cell_lt hj hi
 obtain rfl := hx.ptr (by omega)
 have ca := hx.cell _ hji
 have e1 : (j : Int) * ac ≤ 288 := by have := Nat.mul_le_mul (show j ≤ 24 by omega) hac; rw [← Int.natCast_mul]; omega
 have e3 : (0 : Int) ≤ (j : Int) * ac := by rw [← Int.natCast_mul]; omega
 have w1 : IntKind.i64.wrap ((j : Int) * ac) = (j : Int) * ac := IntWalk.i64_in _ (by omega)
 have w3 : IntKind.i64.wrap ((j : Int) * ac + i) = (j : Int) * ac + i := IntWalk.i64_in _ (by omega)
 have x1 : (j : Int) * ac + i < (ar : Int) * ac := by rw [← Int.natCast_mul, ← Int.natCast_mul]; omega
 have x3 : 0 ≤ (j : Int) * ac + i := by omega
 have x5 : ((j : Int) * ac + i).toNat = j * ac + i := by rw [← Int.natCast_mul]; omega
 go_enter Try.func81, Try.ntmps81
 go_wp2
 go_ret
 exact ⟨rfl, 0, rfl⟩
end Go.Proofs.Ytgknjikjjklaiaa
end
