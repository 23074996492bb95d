/- Contracts of package mat: check, of any matrices. -/
import Derived.Test.YtikcdjibflleeaaDoorMat1
set_option linter.unusedVariables false
set_option linter.unusedSimpArgs false
namespace Go.Proofs.YtikcdjibflleeaaDoor
open Go.RowKit Gal

set_option maxRecDepth 100000 in
set_option maxHeartbeats 1000000 in
theorem check_any (a : Option Addr) (n cap b off : Nat) (ms : List Mat) (w : World) (hm : MatsAt w a n cap b off ms) :
    Calls Tryd.prog 25 #[.slice a n cap] w fun e w' => e = .returned (errV (firstFault ms)) ∧ Below w.heap.size w w' := by
  have hl := hm.len
  have hmx := hm.max
  unfold maxLen at hmx
  go_enter Tryd.func25, Tryd.ntmps25
  go_wp2
  go_loopw [8] (fun i wr => ∃ k : Nat, k ≤ n ∧ i = .int .i64 k ∧ Below w.heap.size w wr ∧ ∀ j, j < k → (mx ms j).fault = 0) (fun i _ => n - (intOf i).toNat)
  case atStart => exact ⟨0, Nat.zero_le _, rfl, Below.refl _ _, fun j hj => absurd hj (Nat.not_lt_zero _)⟩
  case round =>
    obtain ⟨k, hk, rfl, hb, hpre⟩ := hrel
    have HP := Lib.hid hpre
    clear hpre
    by_cases hlt : k < n
    · obtain rfl := hm.ptr (by omega)
      have hbs := hm.lt (by omega)
      obtain ⟨a', n', cap', b', off', m0, m1, m2, hb', hi⟩ := hm.cell k hlt
      have c0 := (hb.cell (p := ⟨b, off + k * 3, none⟩) hbs).trans m0
      have c1 := (hb.cell (p := ⟨b, off + k * 3 + 1, none⟩) hbs).trans m1
      have c2 := (hb.cell (p := ⟨b, off + k * 3 + 2, none⟩) hbs).trans m2
      clear m0 m1 m2
      by_cases hf : (mx ms k).fault = 0
      · have hE : errV (matFault (mx ms k).rows (mx ms k).cols (mx ms k).cells) = .nilIface := errV_nil hf
        have HF := Lib.hid hf
        clear hf
        go_wp2_with fail
        refine (matCheck_any (mx ms k).rows (mx ms k).cols a' n' cap' b' off' (mx ms k).cells _ ((hi.below hb hb').alloc _)).mono ?_
        rintro e w1 ⟨rfl, hb1⟩
        go_wp2
        go_roundw
        case rel => exact ⟨k + 1, by omega, by go_num, (hb.alloc hb.size _).trans (hb1.mono (by simp; have := hb.size; omega)), fun j hj => by
          by_cases e : j = k
          · rw [e]; exact HF.out
          · exact HP.out j (by omega)⟩
        case measure => simp [intOf]; omega
      · have hE : errV (matFault (mx ms k).rows (mx ms k).cols (mx ms k).cells) = .iface 30 (.int .i64 (matFault (mx ms k).rows (mx ms k).cols (mx ms k).cells)) := errV_err hf
        have HF := Lib.hid hf
        clear hf
        go_wp2_with fail
        refine (matCheck_any (mx ms k).rows (mx ms k).cols a' n' cap' b' off' (mx ms k).cells _ ((hi.below hb hb').alloc _)).mono ?_
        rintro e w1 ⟨rfl, hb1⟩
        go_wp2
        go_ret
        refine ⟨ret_val ?_, (hb.alloc hb.size _).trans (hb1.mono (by simp; have := hb.size; omega))⟩
        rw [firstFault_at (by rw [hl]; exact hlt) (fun j hj => HP.out j hj) HF.out, errV_err HF.out]
        rfl
    · go_wp2
      go_ret
      refine ⟨ret_val ?_, hb⟩
      rw [firstFault_none (fun j hj => HP.out j (by omega)), errV_nil rfl]
      rfl
end Go.Proofs.YtikcdjibflleeaaDoor
