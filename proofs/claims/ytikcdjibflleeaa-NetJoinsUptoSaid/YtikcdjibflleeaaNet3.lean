/- Contract of the laws' sameAll, of two lists that are the same; how a net is opened. -/
import Derived.Test.YtikcdjibflleeaaNet2
import Derived.Test.YtikcdjibflleeaaOpenL
set_option linter.unusedVariables false
set_option linter.unusedSimpArgs false
namespace Gal
open Go Go.RowKit
theorem mats_cells {w : World} {F : Nat → Prop} {a : Option Addr} {n k b o : Nat} {ms : List Mat} {i : Nat} (h : RowAt Form.mat w F a n k b o ms) (hi : i < n) :
    ∃ a1 n1 k1 b1 o1, Cells3 w b (o + i * 3) (.int .i64 (mx ms i).rows) (.int .i64 (mx ms i).cols) (.slice a1 n1 k1) ∧ IntsAt w a1 n1 k1 b1 o1 (mx ms i).cells := by
  have hx : ms[i]? = some (mx ms i) := by unfold mx; rw [List.getElem?_eq_getElem (by have := h.len; omega)]; rfl
  obtain ⟨cs, ⟨a1, n1, k1, b1, o1, rfl, _, x1⟩, hc⟩ := h.cell i _ hx
  exact ⟨a1, n1, k1, b1, o1, ⟨hc 0 (by decide), hc 1 (by decide), hc 2 (by decide)⟩, x1⟩
theorem cells33c {w : World} {b c i j : Nat} {x y z x' y' z' : Value} (h : Cells3 w b i x y z) (k : Cells3 w c j x' y' z') :
    w.cell? ⟨b, i, none⟩ = some x ∧ w.cell? ⟨b, i + 1, none⟩ = some y ∧ w.cell? ⟨b, i + 2, none⟩ = some z ∧ w.cell? ⟨c, j, none⟩ = some x' ∧ w.cell? ⟨c, j + 1, none⟩ = some y' ∧ w.cell? ⟨c, j + 2, none⟩ = some z' := ⟨h.c0, h.c1, h.c2, k.c0, k.c1, k.c2⟩
end Gal
namespace Go.Proofs.Ytikcdjibflleeaa
open Go.RowKit Gal Go.ChangeShapes Go.WideShapes
set_option maxRecDepth 100000
set_option maxRecDepth 100000
set_option maxHeartbeats 4000000
theorem sameAll_same (ms : List Mat) (F G : Nat → Prop) (a0 a1 : Option Addr) (n0 n1 k0 k1 b0 b1 o0 o1 : Nat) (w : World) (h0 : RowAt Form.mat w F a0 n0 k0 b0 o0 ms) (h1 : RowAt Form.mat w G a1 n1 k1 b1 o1 ms) :
    Calls Try.prog 16 #[.slice a0 n0 k0, .slice a1 n1 k1] w fun e w' => e = .returned (.bool true) ∧ Below w.heap.size w w' := by
  have m0 := h0.max
  unfold maxLen at m0
  obtain rfl : n0 = n1 := by rw [← h0.len]; exact h1.len
  have hne : ((n0 : Int) != (n0 : Int)) = false := by simp
  go_enter Try.func16, Try.ntmps16
  go_wp2
  go_loopw [5] (fun i wr => ∃ k : Nat, k ≤ n0 ∧ i = .int .i64 k ∧ Below w.heap.size w wr) (fun i _ => n0 - (intOf i).toNat)
  case atStart => exact ⟨0, Nat.zero_le _, rfl, Below.refl _ _⟩
  case round =>
    obtain ⟨k, hk, rfl, hbr⟩ := hrel
    by_cases hlt : k < n0
    · have hltI : (k : Int) < (n0 : Int) := by omega
      obtain rfl := h0.ptr (by omega)
      obtain rfl := h1.ptr (by omega)
      obtain ⟨p1, p2, p3, p4, p5, C, y0⟩ := mats_cells (h0.keep hbr) hlt
      obtain ⟨q1, q2, q3, q4, q5, D, z0⟩ := mats_cells (h1.keep hbr) hlt
      go_wp2_with fail
      go_region_held3 (fun w' => w'.cell? ⟨b0, o0 + k * 3, none⟩ = some (.int .i64 (mx ms k).rows) ∧ w'.cell? ⟨b0, o0 + k * 3 + 1, none⟩ = some (.int .i64 (mx ms k).cols) ∧ w'.cell? ⟨b0, o0 + k * 3 + 2, none⟩ = some (.slice p1 p2 p3) ∧ w'.cell? ⟨b1, o1 + k * 3, none⟩ = some (.int .i64 (mx ms k).rows) ∧ w'.cell? ⟨b1, o1 + k * 3 + 1, none⟩ = some (.int .i64 (mx ms k).cols) ∧ w'.cell? ⟨b1, o1 + k * 3 + 2, none⟩ = some (.slice q1 q2 q3)) (exact cells33c (by repeat (first | fail | (with_reducible exact C) | (with_reducible refine Cells3.alloc ?_ _) | (with_reducible refine Cells3.drewN ?_ _) | (with_reducible refine Cells3.drew ?_) | (with_reducible refine Cells3.far ?_ ?_ _; rotate_left 1; (first | (dsimp only; omega) | omega | (simp; omega) | simp)) | (with_reducible refine Cells3.keep ?_ hb1) | exact C)) (by repeat (first | fail | (with_reducible exact D) | (with_reducible refine Cells3.alloc ?_ _) | (with_reducible refine Cells3.drewN ?_ _) | (with_reducible refine Cells3.drew ?_) | (with_reducible refine Cells3.far ?_ ?_ _; rotate_left 1; (first | (dsimp only; omega) | omega | (simp; omega) | simp)) | (with_reducible refine Cells3.keep ?_ hb1) | exact D))) ((go_at_call 18; go_must (refine (matrices_same (mx ms k) _ _ _ (MatAt.mk (y0.drewN _)) (MatAt.mk (z0.drewN _))).mono ?_); go_must (rintro e w1 ⟨rfl, hb1⟩)))
      have hbq : Below w.heap.size w w1 := (by repeat (first | fail | (with_reducible exact Below.refl _ _) | (with_reducible exact hbr) | (with_reducible refine Below.al ?_ _) | (with_reducible refine Below.drN ?_ _) | (with_reducible refine Below.drew ?_) | (with_reducible refine Below.st ?_ ?_ _; rotate_left 1; (first | (dsimp only; omega) | omega | (simp; omega) | simp)) | (with_reducible refine Below.go ?_ hb1) | exact Below.refl _ _ | exact hbr))
      go_wp2
      go_roundw
      case rel => exact ⟨k + 1, by omega, by go_num, hbq⟩
      case measure => simp [intOf]; omega
    · go_wp2
      go_ret
      exact ⟨rfl, hbr⟩
end Go.Proofs.Ytikcdjibflleeaa
