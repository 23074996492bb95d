/- Contracts of the reference's Blank and of the laws' matFact. -/
import Derived.Test.YtlfeijffjpjnnaaMat5
import Derived.Test.YtlfeijffjpjnnaaSame
set_option linter.unusedVariables false
set_option linter.unusedSimpArgs false
namespace Go.Proofs.Ytlfeijffjpjnnaa
open Go.RowKit Gal

theorem ints_box {w : World} {b : Nat} {xs : List Int} {t : TypeId} (h : Box w b (xs.map (Value.int .i64)) t) (hl : xs.length ≤ maxLen) : IntsAt w (some ⟨b, 0, none⟩) xs.length xs.length b 0 xs := by
  refine ⟨rfl, Nat.le_refl _, hl, fun _ => rfl, fun _ => h.lt, fun i hi => ?_⟩
  rw [Nat.zero_add, h.cell]
  unfold ix
  rw [List.getElem?_map, List.getElem?_eq_getElem hi]
  rfl

set_option maxRecDepth 100000 in
set_option maxHeartbeats 1000000 in
theorem blank_any (R C : Nat) (hR : R ≤ 24) (hC : C ≤ 24) (w : World) :
    Calls Try.prog 26 #[.int .i64 R, .int .i64 C] w fun e w' =>
      ∃ b, e = .returned (.agg #[.int .i64 R, .int .i64 C, .slice (some ⟨b, 0, none⟩) (R * C) (R * C)]) ∧ w.heap.size ≤ b ∧ Box w' b ((zeros (R * C)).map (Value.int .i64)) 3 ∧ Below w.heap.size w w' := by
  have hrc : R * C ≤ 576 := Nat.mul_le_mul hR hC
  have hrc' : (R : Int) * C ≤ 576 := by rw [← Int.natCast_mul]; omega
  have hrc0 : 0 ≤ (R : Int) * C := by rw [← Int.natCast_mul]; omega
  obtain ⟨i0, hi, hz0, hz1, hz2⟩ := info_parts info_int
  have hmk := fun W => run_make_rowN (P := Try.prog) 29 3 i0 _ Try.underlying29 hi hz0 .i64 .i64 (R * C) (R * C) ((R : Int) * C) ((R : Int) * C) (by rw [Int.natCast_mul]) (by rw [Int.natCast_mul]) (Nat.le_refl _) (by rw [hz2]; omega) (by omega) W
  rw [hz1, Nat.mul_one] at hmk
  have hmc : (madeCells (Value.int .i64 0).cells (R * C)) = ((zeros (R * C)).map (Value.int .i64)).toArray := by
    apply Array.toList_inj.1
    show (madeCells #[Value.int .i64 0] (R * C)).toList = _
    rw [toList_madeCells_one]
    simp [zeros]
  rw [hmc] at hmk
  clear hmc
  go_enter Try.func26, Try.ntmps26
  go_wp2
  refine bodyPost_ret (v := .agg #[.int .i64 R, .int .i64 C, .slice (some ⟨w.heap.size + 1, 0, none⟩) (R * C) (R * C)]) (by simp [results, Try.results26, go_sem]) rfl ⟨w.heap.size + 1, rfl, by omega, ?_, (by repeat (first | fail | (with_reducible exact Below.refl _ _) | (with_reducible refine Below.al ?_ _) | (with_reducible refine Below.drN ?_ _) | (with_reducible refine Below.drew ?_) | (with_reducible refine Below.st ?_ ?_ _; rotate_left 1; (first | (dsimp only; omega) | omega | (simp; omega) | simp)) | exact Below.refl _ _))⟩
  exact Box.new' _ _ _ _ (by simp)

theorem fact_ok : mulFault ⟨2, 2, [256, 512, 0, 256]⟩ ⟨2, 2, [256, 512, 0, 256]⟩ = 0 := by decide
theorem fact_is : matMul ⟨2, 2, [256, 512, 0, 256]⟩ ⟨2, 2, [256, 512, 0, 256]⟩ = ⟨2, 2, [256, 1024, 0, 256]⟩ := rfl

set_option maxRecDepth 100000 in
set_option maxHeartbeats 1000000 in
theorem matFact_any (w : World) : Calls Try.prog 24 #[] w fun e w' => e = .returned (.bool true) ∧ Below w.heap.size w w' := by
  go_enter Try.func24, Try.ntmps24
  go_wp2_with fail
  have hx : ∀ o, IntsAt ((w.alloc (.cells #[.int .i64 256, .int .i64 512, .int .i64 0, .int .i64 256] 3)).alloc o) (some ⟨w.heap.size, 0, none⟩) 4 4 w.heap.size 0 [256, 512, 0, 256] := fun o => (ints_box (xs := [256, 512, 0, 256]) (Box.new w [.int .i64 256, .int .i64 512, .int .i64 0, .int .i64 256] 3) (by decide)).alloc o
  refine (matMul_ok ⟨2, 2, [256, 512, 0, 256]⟩ ⟨2, 2, [256, 512, 0, 256]⟩ _ _ _ (MatAt.mk (hx _)) (MatAt.mk (hx _)) fact_ok).mono ?_
  rw [fact_is]
  rintro e w1 ⟨v, rfl, ⟨a, n, cap, b, off, rfl, hi⟩, hb1⟩
  go_wp2_with fail
  have hy : ∀ o, IntsAt ((w1.alloc o).alloc (.cells #[.int .i64 256, .int .i64 1024, .int .i64 0, .int .i64 256] 3)) (some ⟨w1.heap.size + 1, 0, none⟩) 4 4 (w1.heap.size + 1) 0 [256, 1024, 0, 256] := fun o => ints_box (xs := [256, 1024, 0, 256]) (Box.new' (w1.alloc o) _ [.int .i64 256, .int .i64 1024, .int .i64 0, .int .i64 256] 3 (by simp)) (by decide)
  refine (ints_any _ _ _ _ _ _ _ _ _ _ _ _ _ (hi.alloc _ |>.alloc _) (hy _)).mono ?_
  rintro e w2 ⟨rfl, m, rfl⟩
  have hd : decide (([256, 1024, 0, 256] : List Int) = [256, 1024, 0, 256]) = true := by decide
  go_wp2
  go_ret
  exact ⟨rfl, (by repeat (first | fail | (with_reducible exact Below.refl _ _) | (with_reducible refine Below.al ?_ _) | (with_reducible refine Below.drN ?_ _) | (with_reducible refine Below.drew ?_) | (with_reducible refine Below.st ?_ ?_ _; rotate_left 1; (first | (dsimp only; omega) | omega | (simp; omega) | simp)) | (with_reducible refine Below.go ?_ hb1) | exact Below.refl _ _))⟩
end Go.Proofs.Ytlfeijffjpjnnaa
