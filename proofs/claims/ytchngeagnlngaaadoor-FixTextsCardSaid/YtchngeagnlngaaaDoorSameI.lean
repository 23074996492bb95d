/- Contracts of package galleysame: Ints, Pick. -/
import Derived.Test.YtchngeagnlngaaaDoorProg
import Derived.Test.YtchngeagnlngaaaDoorBaseR
import Derived.WalkKit
import Derived.WalkLawsBesides
import Derived.WalkSpells
import Derived.BigQuiet
import Derived.IntWalk
import Derived.RegionTactic
set_option linter.unusedVariables false
set_option linter.unusedSimpArgs false
namespace Go.Proofs.YtchngeagnlngaaaDoor
open Go.RowKit Gal
theorem ret_int {k : IntKind} {a b : Int} (h : a = b) : Ending.returned (.int k a) = .returned (.int k b) := by rw [h]


set_option maxRecDepth 100000 in
set_option maxHeartbeats 1000000 in
theorem ints_any (a0 a1 : Option Addr) (n0 n1 k0 k1 b0 b1 o0 o1 : Nat) (xs ys : List Int) (w : World) (h0 : IntsAt w a0 n0 k0 b0 o0 xs) (h1 : IntsAt w a1 n1 k1 b1 o1 ys) :
    Calls Tryd.prog 17 #[.slice a0 n0 k0, .slice a1 n1 k1] w fun e w' => e = .returned (.bool (decide (xs = ys))) ∧ ∃ m, w' = w.drewN m := by
  have m0 := h0.max
  have m1 := h1.max
  unfold maxLen at m0 m1
  have l0 := h0.len
  have l1 := h1.len
  by_cases hn : n0 = n1
  · subst hn
    have hne : ((n0 : Int) != (n0 : Int)) = false := by simp
    go_enter Tryd.func17, Tryd.ntmps17
    go_wp2
    go_loopw [5] (fun i wr => ∃ k m : Nat, k ≤ n0 ∧ i = .int .i64 k ∧ wr = w.drewN m ∧ (∀ j, j < k → ix xs j = ix ys j)) (fun i _ => n0 - (intOf i).toNat)
    case atStart => exact ⟨0, 0, Nat.zero_le _, rfl, rfl, fun j hj => absurd hj (Nat.not_lt_zero _)⟩
    case round =>
      obtain ⟨k, m, hk, rfl, rfl, hpre⟩ := hrel
      have HP := Lib.hid hpre
      clear hpre
      by_cases hlt : k < n0
      · have hltI : (k : Int) < (n0 : Int) := by omega
        obtain rfl := h0.ptr (by omega)
        obtain rfl := h1.ptr (by omega)
        have c0 := h0.cell k hlt
        have c1 := h1.cell k hlt
        by_cases hx : ix xs k = ix ys k
        · have hxx : (ix xs k != ix ys k) = false := by simp [hx]
          have HX := Lib.hid hx
          clear hx
          go_wp2
          go_quiet (fail)
          go_wp2
          go_roundw
          case rel => exact ⟨k + 1, _, by omega, by go_num, rfl, fun j hj => by
            by_cases e : j = k
            · rw [e]; exact HX.out
            · exact HP.out j (by omega)⟩
          case measure => simp [intOf]; omega
        · have hxx : (ix xs k != ix ys k) = true := by simp [hx]
          have HX := Lib.hid hx
          clear hx
          go_wp2
          go_quiet (fail)
          go_wp2
          go_ret
          refine ⟨ret_val ?_, m + nq, World.drewN_drewN _ _ _⟩
          rw [decide_eq_false (fun h => HX.out (by rw [h]))]
          rfl
      · go_wp2
        go_ret
        refine ⟨ret_val ?_, m, rfl⟩
        rw [decide_eq_true (eq_of_ix (by omega) (fun j hj => HP.out j (by omega)))]
        rfl
  · have hne : ((n0 : Int) != (n1 : Int)) = true := by simp; omega
    have hd : decide (xs = ys) = false := decide_eq_false (fun h => hn (by rw [← l0, ← l1, h]))
    rw [hd]
    clear hd hn l0 l1
    go_enter Tryd.func17, Tryd.ntmps17
    go_wp2
    go_ret
    exact ⟨rfl, 0, rfl⟩

instance : DecidableEq Mat := fun a b => by
  obtain ⟨r, c, xs⟩ := a
  obtain ⟨r', c', ys⟩ := b
  simp only [Mat.mk.injEq]
  exact inferInstance

end Go.Proofs.YtchngeagnlngaaaDoor
