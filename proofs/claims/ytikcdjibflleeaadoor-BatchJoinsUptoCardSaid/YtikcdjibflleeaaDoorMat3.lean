/- Contracts of package mat: the closures that fill. -/
import Derived.Test.YtikcdjibflleeaaDoorFix
import Derived.Test.YtikcdjibflleeaaDoorBaseR
import Derived.BigQuiet
import Derived.IntWalk
set_option linter.unusedVariables false
set_option linter.unusedSimpArgs false
namespace Go.Proofs.YtikcdjibflleeaaDoor
open Go.RowKit Gal

set_option maxRecDepth 100000 in
set_option maxHeartbeats 1000000 in
theorem mulCell_any (p q : Nat) (ar ac bc : Nat) (aa ba : Option Addr) (acap bcap ab ao bb bo : Nat) (xs ys : List Int) (har : ar ≤ 24) (hac : ac ≤ 12) (hbc : bc ≤ 12) (w : World)
    (hp : Box w p [.int .i64 ar, .int .i64 ac, .slice aa (ar * ac) acap] 25) (hq : Box w q [.int .i64 ac, .int .i64 bc, .slice ba (ac * bc) bcap] 25)
    (hx : IntsAt w aa (ar * ac) acap ab ao xs) (hy : IntsAt w ba (ac * bc) bcap bb bo ys) (i j : Nat) (hi : i < ar) (hj : j < bc) :
    Calls Tryd.prog 105 #[.int .i64 i, .int .i64 j, .pointer (some ⟨p, 0, none⟩), .pointer (some ⟨q, 0, none⟩)] w fun e w' => e = .returned (.int .i64 (mulCell xs ys ac bc i j)) ∧ ∃ n, w' = w.drewN n := by
  have p1 := hp.cell 1
  have p2 := hp.cell 2
  have q1 := hq.cell 1
  have q2 := hq.cell 2
  go_enter Tryd.func105, Tryd.ntmps105
  go_wp2
  go_loopw [7, 11] (fun s c wr => ∃ k n : Nat, k ≤ ac ∧ c = .int .i64 k ∧ s = .int .i64 (sumTo (fun k => mul (ix xs (i * ac + k)) (ix ys (k * bc + j))) k) ∧ wr = w.drewN n) (fun _ c _ => ac - (intOf c).toNat)
  case atStart => exact ⟨0, 0, Nat.zero_le _, rfl, rfl, rfl⟩
  case round =>
    obtain ⟨k, n, hk, rfl, rfl, rfl⟩ := hrel
    by_cases hlt : k < ac
    · have hia := cell_lt hi hlt
      have hkb := cell_lt hlt hj
      obtain rfl := hx.ptr (by omega)
      obtain rfl := hy.ptr (by omega)
      have ca := hx.cell _ hia
      have cb := hy.cell _ hkb
      have e1 : (i : Int) * ac ≤ 288 := by have := Nat.mul_le_mul (show i ≤ 24 by omega) hac; rw [← Int.natCast_mul]; omega
      have e2 : (k : Int) * bc ≤ 288 := by have := Nat.mul_le_mul (show k ≤ 24 by omega) hbc; rw [← Int.natCast_mul]; omega
      have e3 : (0 : Int) ≤ (i : Int) * ac := by rw [← Int.natCast_mul]; omega
      have e4 : (0 : Int) ≤ (k : Int) * bc := by rw [← Int.natCast_mul]; omega
      have w1 : IntKind.i64.wrap ((i : Int) * ac) = (i : Int) * ac := IntWalk.i64_in _ (by omega)
      have w2 : IntKind.i64.wrap ((k : Int) * bc) = (k : Int) * bc := IntWalk.i64_in _ (by omega)
      have w3 : IntKind.i64.wrap ((i : Int) * ac + k) = (i : Int) * ac + k := IntWalk.i64_in _ (by omega)
      have w4 : IntKind.i64.wrap ((k : Int) * bc + j) = (k : Int) * bc + j := IntWalk.i64_in _ (by omega)
      have x1 : (i : Int) * ac + k < (ar : Int) * ac := by rw [← Int.natCast_mul, ← Int.natCast_mul]; omega
      have x2 : (k : Int) * bc + j < (ac : Int) * bc := by rw [← Int.natCast_mul, ← Int.natCast_mul]; omega
      have x3 : 0 ≤ (i : Int) * ac + k := by omega
      have x4 : 0 ≤ (k : Int) * bc + j := by omega
      have x5 : ((i : Int) * ac + k).toNat = i * ac + k := by rw [← Int.natCast_mul]; omega
      have x6 : ((k : Int) * bc + j).toNat = k * bc + j := by rw [← Int.natCast_mul]; omega
      go_wp2
      go_quiet ((first | (go_at_call 51; first | exact quiet0 (mul_any _ _) | exact quiet1 (mul_any _ _)) | (go_at_call 47; first | exact quiet0 (add_any _ _) | exact quiet1 (add_any _ _))))
      go_wp2
      go_roundw
      case rel => exact ⟨k + 1, _, by omega, by go_num, rfl, rfl⟩
      case measure => simp [intOf]; omega
    · obtain rfl : k = ac := by omega
      go_wp2
      go_ret
      exact ⟨rfl, _, rfl⟩

/-- a cell of a matrix, turned -/
theorem turnCell_any (p : Nat) (ar ac : Nat) (aa : Option Addr) (acap ab ao : Nat) (xs : List Int) (har : ar ≤ 24) (hac : ac ≤ 12) (w : World)
    (hp : Box w p [.int .i64 ar, .int .i64 ac, .slice aa (ar * ac : Nat) acap] 25) (hx : IntsAt w aa (ar * ac) acap ab ao xs) (i j : Nat) (hi : i < ac) (hj : j < ar) :
    Calls Tryd.prog 104 #[.int .i64 i, .int .i64 j, .pointer (some ⟨p, 0, none⟩)] w fun e w' => e = .returned (.int .i64 (ix xs (j * ac + i))) ∧ ∃ n, w' = w.drewN n := by
  have p1 := hp.cell 1
  have p2 := hp.cell 2
  have hji := cell_lt hj hi
  obtain rfl := hx.ptr (by omega)
  have ca := hx.cell _ hji
  have e1 : (j : Int) * ac ≤ 288 := by have := Nat.mul_le_mul (show j ≤ 24 by omega) hac; rw [← Int.natCast_mul]; omega
  have e3 : (0 : Int) ≤ (j : Int) * ac := by rw [← Int.natCast_mul]; omega
  have w1 : IntKind.i64.wrap ((j : Int) * ac) = (j : Int) * ac := IntWalk.i64_in _ (by omega)
  have w3 : IntKind.i64.wrap ((j : Int) * ac + i) = (j : Int) * ac + i := IntWalk.i64_in _ (by omega)
  have x1 : (j : Int) * ac + i < (ar : Int) * ac := by rw [← Int.natCast_mul, ← Int.natCast_mul]; omega
  have x3 : 0 ≤ (j : Int) * ac + i := by omega
  have x5 : ((j : Int) * ac + i).toNat = j * ac + i := by rw [← Int.natCast_mul]; omega
  go_enter Tryd.func104, Tryd.ntmps104
  go_wp2
  go_ret
  exact ⟨rfl, 0, rfl⟩
end Go.Proofs.YtikcdjibflleeaaDoor
