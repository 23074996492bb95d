/- Contracts of package layer: what each kind does, there. -/
import Derived.Test.YtikcdjibflleeaaDoorLay4
import Derived.Test.YtikcdjibflleeaaDoorMat5
import Derived.BigQuiet
set_option linter.unusedVariables false
set_option linter.unusedSimpArgs false
namespace Go.Proofs.YtikcdjibflleeaaDoor
open Go.RowKit Gal

set_option maxRecDepth 100000
set_option maxHeartbeats 1000000
theorem cf_scale (vs : Array Value) (W : World) : (callFunc 117 vs).run Tryd.prog W = .ok (.enter 117 vs) W := by kernel_rfl
theorem scaleCell_any (p q : Nat) (r c : Int) (a : Option Addr) (n k0 b o : Nat) (xs : List Int) (kd wr wc br bc : Int) (a1 a2 : Option Addr) (n1 k1 b1 o1 n2 k2 : Nat) (ws : List Int) (w : World)
    (hp : Box w p [.int .i64 r, .int .i64 c, .slice a n k0] 25) (hq : Box w q [.int .i64 kd, .int .i64 wr, .int .i64 wc, .slice a1 n1 k1, .int .i64 br, .int .i64 bc, .slice a2 n2 k2] 44)
    (hx : IntsAt w a n k0 b o xs) (hy : IntsAt w a1 n1 k1 b1 o1 ws) (h1 : 0 < n1) (i : Nat) (hi : i < n) (hi2 : i ≤ 1000000) :
    Calls Tryd.prog 117 #[.int .i64 i, .pointer (some ⟨p, 0, none⟩), .pointer (some ⟨q, 0, none⟩)] w fun e w' => e = .returned (.int .i64 (mul (ix xs i) (ix ws 0))) ∧ ∃ n, w' = w.drewN n := by
  have p2 := hp.cell 2
  have q3 := hq.cell 3
  obtain rfl := hx.ptr (by omega)
  obtain rfl := hy.ptr h1
  have ca := hx.cell _ hi
  have cb := hy.cell 0 h1
  rw [Nat.add_zero] at cb
  go_enter Tryd.func117, Tryd.ntmps117
  go_wp2_with fail
  go_quiet ((go_at_call 51; first | exact quiet0 (mul_any _ _) | exact quiet1 (mul_any _ _)))
  go_wp2
  go_ret
  exact ⟨rfl, _, rfl⟩

/-- what is asked of a layer and a matrix that goes in -/
structure Goes (l : Lay) (x : Mat) : Prop where
  lay : l.fault = 0
  mat : x.fault = 0
  takes : l.takes x.cols

theorem fault_form' {m : Mat} (h : m.fault = 0) : ∃ (R K : Nat) (xs : List Int), m = ⟨R, K, xs⟩ ∧ R ≤ 24 ∧ K ≤ 12 ∧ xs.length = R * K ∧ inEnds xs := by
  obtain ⟨R, K, eR, eK, hR, hK, hl, he⟩ := matFault_ok h
  obtain ⟨r, c, xs⟩ := m
  dsimp only at eR eK hl he
  subst eR eK
  exact ⟨R, K, xs, rfl, hR, hK, hl, he⟩
theorem run_3 (W B : Mat) (x : Mat) (a0 aw ab : Option Addr) (n0 k0 b0 o0 nw kw bw ow nb kb : Nat) (w : World) (x0 : IntsAt w a0 n0 k0 b0 o0 x.cells) (xw : IntsAt w aw nw kw bw ow W.cells) (hg : Goes ⟨3, W, B⟩ x) :
    Calls Tryd.prog 116 #[.agg #[], .agg #[.int .i64 3, .int .i64 W.rows, .int .i64 W.cols, .slice aw nw kw, .int .i64 B.rows, .int .i64 B.cols, .slice ab nb kb], .agg #[.int .i64 x.rows, .int .i64 x.cols, .slice a0 n0 k0]] w fun e w' =>
      ∃ v, e = .returned v ∧ MatNew w.heap.size w' v (Lay.go ⟨3, W, B⟩ x) ∧ Below w.heap.size w w' := by
  obtain ⟨_, _, fw, fb, ft⟩ := Lay.fault_ok hg.lay
  obtain ⟨R, K, xs, rfl, hR, hK, hla, _⟩ := fault_form' hg.mat
  have hl0 := x0.len
  have hrk : R * K ≤ 288 := Nat.mul_le_mul hR hK
  dsimp only at x0 hl0
  obtain rfl : R * K = n0 := by rw [← hla]; exact hl0
  have hKp : 0 < R * K → 0 < K := fun h => by
    rcases Nat.eq_zero_or_pos K with h0 | h0
    · rw [h0, Nat.mul_zero] at h; omega
    · exact h0
  have hgo : Lay.go ⟨3, W, B⟩ ⟨R, K, xs⟩ = ⟨R, K, upto (fun k => mul (ix xs k) (ix W.cells 0)) (R * K)⟩ := by
    unfold Lay.go
    rw [if_neg (by simp), if_neg (by simp), if_pos rfl]
    dsimp only
    rw [hla]
  have hnw : 0 < nw := by
    obtain ⟨R', K', e1, e2, _, _, h3, _⟩ := matFault_ok fw
    unfold Lay.fits at ft
    dsimp only at ft e1 e2 h3
    have h4 : W.rows = 1 ∧ W.cols = 1 := by omega
    obtain rfl : R' = 1 := by omega
    obtain rfl : K' = 1 := by omega
    rw [← xw.len, h3]
    omega
  rw [hgo]
  clear hgo fw fb ft hg hla hl0
  go_enter Tryd.func116, Tryd.ntmps116
  go_wp2_with fail
  refine (each_any R K a0 (R * K) k0 (by omega) 117 #[.pointer (some ⟨w.heap.size + 1 + 1, 0, none⟩), .pointer (some ⟨w.heap.size + 1, 0, none⟩)] (fun k => mul (ix xs k) (ix W.cells 0)) _ cf_scale ?_).mono ?_
  · intro i hi U hU
    exact scaleCell_any _ _ _ _ _ _ _ _ _ xs _ _ _ _ _ _ _ _ _ _ _ _ _ W.cells U (((Box.new' _ (w.heap.size + 1 + 1) _ _ (by simp)).alloc _).keep hU) ((((Box.new' _ (w.heap.size + 1) _ _ (by simp)).alloc _).alloc _).keep hU) ((x0.alloc _ |>.alloc _ |>.alloc _ |>.alloc _).keep hU) ((xw.alloc _ |>.alloc _ |>.alloc _ |>.alloc _).keep hU) hnw i hi (by omega)
  · rintro e w1 ⟨b1, rfl, hbb, hi1, hb1⟩
    have B2 := (Box.new' _ (w.heap.size + 1 + 1 + 1) [.int .i64 0, .int .i64 0, .slice none 0 0] 25 (by simp)).keep hb1
    have B2c := B2.cell
    have B2f := B2.thawed
    have B2z := B2.lt
    have B2k := lt_add B2z
    simp at hbb
    go_wp2
    refine bodyPost_ret (v := .agg #[.int .i64 R, .int .i64 K, .slice (some ⟨b1, 0, none⟩) (R * K) (R * K)]) (by simp [results, Tryd.results116, go_sem, B2c]) rfl ⟨_, rfl, MatNew.mk (fun _ => by omega) (hi1.set3 (fun _ => by omega) _ _ _), (by repeat (first | fail | (with_reducible exact Below.refl _ _) | (with_reducible refine Below.al ?_ _) | (with_reducible refine Below.drN ?_ _) | (with_reducible refine Below.drew ?_) | (with_reducible refine Below.st ?_ ?_ _; rotate_left 1; (first | (dsimp only; omega) | omega | (simp; omega) | simp)) | (with_reducible refine Below.go ?_ hb1) | exact Below.refl _ _))⟩
end Go.Proofs.YtikcdjibflleeaaDoor
