/- Contracts of package batch: how many rows each part has. -/
import Derived.Test.YtikcdjibflleeaaFix
import Derived.Test.YtikcdjibflleeaaBaseR
import Derived.Test.YtikcdjibflleeaaMat2
import Derived.Test.YtikcdjibflleeaaPBatch
set_option linter.unusedVariables false
set_option linter.unusedSimpArgs false
namespace Go.Proofs.Ytikcdjibflleeaa
open Go.RowKit Gal

theorem ints1 {w : World} {b : Nat} {x : Int} {t : TypeId} (h : Box w b [.int .i64 x] t) : IntsAt w (some ⟨b, 0, none⟩) 1 1 b 0 [x] := by
  refine ⟨rfl, Nat.le_refl _, by unfold maxLen; omega, fun _ => rfl, fun _ => h.lt, fun i hi => ?_⟩
  obtain rfl : i = 0 := by omega
  exact (h.cell _).trans rfl

set_option maxRecDepth 100000 in
set_option maxHeartbeats 1000000 in
theorem batchSizes_ok (R P : Nat) (w : World) (hR : R ≤ 24) (hP : P ≤ 12) (h1 : 1 ≤ P) (hPR : P ≤ R) :
    Calls Try.prog 10 #[.int .i64 R, .int .i64 P] w fun e w' => ∃ v, e = .returned (.tuple #[v, .nilIface]) ∧
      w'.ownsRow w.heap.size 3 1 v P ((ints (sizesOf R P)).map (Value.int .i64)) ∧ Below w.heap.size w w' := by
  obtain ⟨i0, hi, hz0, hz1, hz2⟩ := info_parts info_int
  have hRP : decide (R < P) = false := decide_eq_false (by omega)
  go_enter Try.func10, Try.ntmps10
  go_wp2
  go_loopw [0, 6, 7, 8] (fun r o l n wr => ∃ (left R' : Nat) (pre : List Nat), l = .int .i64 left ∧ r = .int .i64 R' ∧ R' ≤ 24 ∧ left ≤ R' ∧ Hid (sizesOf R P = pre ++ sizesOf R' left) ∧ pre.length + left = P ∧
      wr.ownsRow w.heap.size 3 1 o pre.length ((ints pre).map (Value.int .i64)) ∧ Below w.heap.size w wr) (fun r o l n _ => (intOf l).toNat)
  case atStart => exact ⟨P, R, [], rfl, rfl, hR, hPR, Lib.hid rfl, by simp, World.ownsRow_nil _ _ _ _, Below.refl _ _⟩
  case round =>
    obtain ⟨left, R', pre, rfl, rfl, hR', hlR, hs, hl, hown, hb⟩ := hrel
    cases left with
    | zero =>
      obtain ⟨av, cv, rfl⟩ := own_slice hown
      go_wp2
      go_ret2
      refine ⟨_, rfl, ?_, hb⟩
      have hs' := hs.out
      simp only [sizesOf, List.append_nil] at hs'
      rw [hs', ← hl]
      exact hown
    | succ m =>
      have hq : ((R' : Int) + ((m : Int) + 1) - 1) / ((m : Int) + 1) = (((R' + m) / (m + 1) : Nat) : Int) := by
        have e : (R' : Int) + ((m : Int) + 1) - 1 = ((R' + m : Nat) : Int) := by omega
        rw [e]
        exact (Int.natCast_ediv _ _).symm
      have hd1 := share_le R' m
      have hd2 := share_rest hlR
      obtain ⟨q, hqq⟩ : ∃ q, (R' + m) / (m + 1) = q := ⟨_, rfl⟩
      rw [hqq] at hq hd1 hd2
      have HQQ := Lib.hid hqq
      clear hqq
      have hl2 : (ints pre).length = pre.length := ints_length _
      go_wp2_with (at_builtin; (refine wpList_append_ints rfl (.tmp 39) (.tmp 41) 26 rfl w.heap.size 3 i0 Try.underlying26 hi hz0 hz1 hz2 _ pre.length (ints pre) rfl (hown.alloc _) _ 1 1 wr.heap.size 0 [(q : Int)] rfl (ints1 (Box.new _ _ 3)) (by omega) (by have := hb.size; simp; omega) ?_))
      intro v' w' hown' hgrow'
      have hbn : Below w.heap.size w w' := Below.grown (Below.al hb _) hgrow' (by have := hb.size; simp; omega) (fun k hk => (hown.lt k hk).1)
      obtain ⟨av, cv, rfl⟩ := own_slice hown'
      go_wp2
      go_roundw
      case rel =>
        refine ⟨m, R' - q, pre ++ [q], by go_num, by go_num, by omega, by omega, Lib.hid ?_, by simp; omega, ?_, hbn⟩
        · rw [hs.out, List.append_assoc]
          rw [sizesOf_succ, HQQ.out]
          rfl
        · rw [ints_snoc, List.length_append]
          simpa using hown'
      case measure => simp [intOf]
end Go.Proofs.Ytikcdjibflleeaa
