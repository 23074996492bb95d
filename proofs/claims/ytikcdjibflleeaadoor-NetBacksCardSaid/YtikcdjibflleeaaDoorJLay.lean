/- Some small texts, joined: Lay5, Lay6, Lay7. -/
import Derived.Test.YtikcdjibflleeaaDoorLay4
import Derived.Test.YtikcdjibflleeaaDoorJMat
import Derived.BigQuiet
import Derived.Test.YtikcdjibflleeaaDoorUni
import Derived.BigRegion
section
set_option linter.unusedVariables false
set_option linter.unusedSimpArgs false
namespace Go.Proofs.YtikcdjibflleeaaDoor
open Go.RowKit Gal

set_option maxRecDepth 100000
set_option maxHeartbeats 1000000
theorem cf_scale (vs : Array Value) (W : World) : (callFunc 117 vs).run Tryd.prog W = .ok (.enter 117 vs) W := by kernel_rfl
theorem scaleCell_any (p q : Nat) (r c : Int) (a : Option Addr) (n k0 b o : Nat) (xs : List Int) (kd wr wc br bc : Int) (a1 a2 : Option Addr) (n1 k1 b1 o1 n2 k2 : Nat) (ws : List Int) (w : World)
    (hp : Box w p [.int .i64 r, .int .i64 c, .slice a n k0] 25) (hq : Box w q [.int .i64 kd, .int .i64 wr, .int .i64 wc, .slice a1 n1 k1, .int .i64 br, .int .i64 bc, .slice a2 n2 k2] 44)
    (hx : IntsAt w a n k0 b o xs) (hy : IntsAt w a1 n1 k1 b1 o1 ws) (h1 : 0 < n1) (i : Nat) (hi : i < n) (hi2 : i ≤ 1000000) :
    Calls Tryd.prog 117 #[.int .i64 i, .pointer (some ⟨p, 0, none⟩), .pointer (some ⟨q, 0, none⟩)] w fun e w' => e = .returned (.int .i64 (mul (ix xs i) (ix ws 0))) ∧ ∃ n, w' = w.drewN n := by
  have p2 := hp.cell 2
  have q3 := hq.cell 3
  obtain rfl := hx.ptr (by omega)
  obtain rfl := hy.ptr h1
  have ca := hx.cell _ hi
  have cb := hy.cell 0 h1
  rw [Nat.add_zero] at cb
  go_enter Tryd.func117, Tryd.ntmps117
  go_wp2_with fail
  go_quiet ((go_at_call 51; first | exact quiet0 (mul_any _ _) | exact quiet1 (mul_any _ _)))
  go_wp2
  go_ret
  exact ⟨rfl, _, rfl⟩

/-- what is asked of a layer and a matrix that goes in -/
structure Goes (l : Lay) (x : Mat) : Prop where
  lay : l.fault = 0
  mat : x.fault = 0
  takes : l.takes x.cols

theorem fault_form' {m : Mat} (h : m.fault = 0) : ∃ (R K : Nat) (xs : List Int), m = ⟨R, K, xs⟩ ∧ R ≤ 24 ∧ K ≤ 12 ∧ xs.length = R * K ∧ inEnds xs := by
  obtain ⟨R, K, eR, eK, hR, hK, hl, he⟩ := matFault_ok h
  obtain ⟨r, c, xs⟩ := m
  dsimp only at eR eK hl he
  subst eR eK
  exact ⟨R, K, xs, rfl, hR, hK, hl, he⟩
theorem run_3 (W B : Mat) (x : Mat) (a0 aw ab : Option Addr) (n0 k0 b0 o0 nw kw bw ow nb kb : Nat) (w : World) (x0 : IntsAt w a0 n0 k0 b0 o0 x.cells) (xw : IntsAt w aw nw kw bw ow W.cells) (hg : Goes ⟨3, W, B⟩ x) :
    Calls Tryd.prog 116 #[.agg #[], .agg #[.int .i64 3, .int .i64 W.rows, .int .i64 W.cols, .slice aw nw kw, .int .i64 B.rows, .int .i64 B.cols, .slice ab nb kb], .agg #[.int .i64 x.rows, .int .i64 x.cols, .slice a0 n0 k0]] w fun e w' =>
      ∃ v, e = .returned v ∧ MatNew w.heap.size w' v (Lay.go ⟨3, W, B⟩ x) ∧ Below w.heap.size w w' := by
  obtain ⟨_, _, fw, fb, ft⟩ := Lay.fault_ok hg.lay
  obtain ⟨R, K, xs, rfl, hR, hK, hla, _⟩ := fault_form' hg.mat
  have hl0 := x0.len
  have hrk : R * K ≤ 288 := Nat.mul_le_mul hR hK
  dsimp only at x0 hl0
  obtain rfl : R * K = n0 := by rw [← hla]; exact hl0
  have hKp : 0 < R * K → 0 < K := fun h => by
    rcases Nat.eq_zero_or_pos K with h0 | h0
    · rw [h0, Nat.mul_zero] at h; omega
    · exact h0
  have hgo : Lay.go ⟨3, W, B⟩ ⟨R, K, xs⟩ = ⟨R, K, upto (fun k => mul (ix xs k) (ix W.cells 0)) (R * K)⟩ := by
    unfold Lay.go
    rw [if_neg (by simp), if_neg (by simp), if_pos rfl]
    dsimp only
    rw [hla]
  have hnw : 0 < nw := by
    obtain ⟨R', K', e1, e2, _, _, h3, _⟩ := matFault_ok fw
    unfold Lay.fits at ft
    dsimp only at ft e1 e2 h3
    have h4 : W.rows = 1 ∧ W.cols = 1 := by omega
    obtain rfl : R' = 1 := by omega
    obtain rfl : K' = 1 := by omega
    rw [← xw.len, h3]
    omega
  rw [hgo]
  clear hgo fw fb ft hg hla hl0
  go_enter Tryd.func116, Tryd.ntmps116
  go_wp2_with fail
  refine (each_any R K a0 (R * K) k0 (by omega) 117 #[.pointer (some ⟨w.heap.size + 1 + 1, 0, none⟩), .pointer (some ⟨w.heap.size + 1, 0, none⟩)] (fun k => mul (ix xs k) (ix W.cells 0)) _ cf_scale ?_).mono ?_
  · intro i hi U hU
    exact scaleCell_any _ _ _ _ _ _ _ _ _ xs _ _ _ _ _ _ _ _ _ _ _ _ _ W.cells U (((Box.new' _ (w.heap.size + 1 + 1) _ _ (by simp)).alloc _).keep hU) ((((Box.new' _ (w.heap.size + 1) _ _ (by simp)).alloc _).alloc _).keep hU) ((x0.alloc _ |>.alloc _ |>.alloc _ |>.alloc _).keep hU) ((xw.alloc _ |>.alloc _ |>.alloc _ |>.alloc _).keep hU) hnw i hi (by omega)
  · rintro e w1 ⟨b1, rfl, hbb, hi1, hb1⟩
    have B2 := (Box.new' _ (w.heap.size + 1 + 1 + 1) [.int .i64 0, .int .i64 0, .slice none 0 0] 25 (by simp)).keep hb1
    have B2c := B2.cell
    have B2f := B2.thawed
    have B2z := B2.lt
    have B2k := lt_add B2z
    simp at hbb
    go_wp2
    refine bodyPost_ret (v := .agg #[.int .i64 R, .int .i64 K, .slice (some ⟨b1, 0, none⟩) (R * K) (R * K)]) (by simp [results, Tryd.results116, go_sem, B2c]) rfl ⟨_, rfl, MatNew.mk (fun _ => by omega) (hi1.set3 (fun _ => by omega) _ _ _), (by repeat (first | fail | (with_reducible exact Below.refl _ _) | (with_reducible refine Below.al ?_ _) | (with_reducible refine Below.drN ?_ _) | (with_reducible refine Below.drew ?_) | (with_reducible refine Below.st ?_ ?_ _; rotate_left 1; (first | (dsimp only; omega) | omega | (simp; omega) | simp)) | (with_reducible refine Below.go ?_ hb1) | exact Below.refl _ _))⟩
end Go.Proofs.YtikcdjibflleeaaDoor
end
section
set_option linter.unusedVariables false
set_option linter.unusedSimpArgs false
namespace Go.Proofs.YtikcdjibflleeaaDoor
open Go.RowKit Gal
set_option maxRecDepth 100000
set_option maxHeartbeats 2000000
theorem m_run_1 (w : World) : (Go.method 283 128 (.agg #[]) "galley/layer.run").run Tryd.prog w = .ok (99, .agg #[]) w := by kernel_rfl
theorem n_run_1 (w : World) : (Go.nilAhead 283 128 (.agg #[]) "galley/layer.run").run Tryd.prog w = .ok (some false) w := by kernel_rfl
theorem m_run_2 (w : World) : (Go.method 283 131 (.agg #[]) "galley/layer.run").run Tryd.prog w = .ok (110, .agg #[]) w := by kernel_rfl
theorem n_run_2 (w : World) : (Go.nilAhead 283 131 (.agg #[]) "galley/layer.run").run Tryd.prog w = .ok (some false) w := by kernel_rfl
theorem m_run_3 (w : World) : (Go.method 283 132 (.agg #[]) "galley/layer.run").run Tryd.prog w = .ok (116, .agg #[]) w := by kernel_rfl
theorem n_run_3 (w : World) : (Go.nilAhead 283 132 (.agg #[]) "galley/layer.run").run Tryd.prog w = .ok (some false) w := by kernel_rfl
theorem m_run_4 (w : World) : (Go.method 283 133 (.agg #[]) "galley/layer.run").run Tryd.prog w = .ok (120, .agg #[]) w := by kernel_rfl
theorem n_run_4 (w : World) : (Go.nilAhead 283 133 (.agg #[]) "galley/layer.run").run Tryd.prog w = .ok (some false) w := by kernel_rfl

end Go.Proofs.YtikcdjibflleeaaDoor
end
section
set_option linter.unusedVariables false
set_option linter.unusedSimpArgs false
namespace Go.Proofs.YtikcdjibflleeaaDoor
open Go.RowKit Gal
set_option maxRecDepth 100000
set_option maxHeartbeats 2000000

/-- a value reads as what W and B are to be turned by, in blocks from base on -/
def GrdNew (base : Nat) (w : World) (v : Value) (d : Grd) : Prop := ∃ a n cap b o a' n' cap' b' o', v = .agg #[.int .i64 d.W.rows, .int .i64 d.W.cols, .slice a n cap, .int .i64 d.B.rows, .int .i64 d.B.cols, .slice a' n' cap'] ∧
  (0 < n → base ≤ b) ∧ IntsAt w a n cap b o d.W.cells ∧ (0 < n' → base ≤ b') ∧ IntsAt w a' n' cap' b' o' d.B.cells
theorem noInts (w : World) : IntsAt w none 0 0 0 0 [] := ⟨rfl, Nat.le_refl _, Nat.zero_le _, fun h => absurd h (Nat.lt_irrefl _), fun h => absurd h (Nat.lt_irrefl _), fun i hi => absurd hi (Nat.not_lt_zero _)⟩
theorem noGrd (base : Nat) (w : World) : GrdNew base w (.agg #[.int .i64 0, .int .i64 0, .slice none 0 0, .int .i64 0, .int .i64 0, .slice none 0 0]) Grd.none :=
  ⟨none, 0, 0, 0, 0, none, 0, 0, 0, 0, rfl, fun h => absurd h (Nat.lt_irrefl _), noInts w, fun h => absurd h (Nat.lt_irrefl _), noInts w⟩
/-- what is asked of a layer and what goes in and what goes back -/
structure Backs (l : Lay) (x g : Mat) : Prop where
  goes : Goes l x
  mat : g.fault = 0
  rows : g.rows = x.rows
  cols : g.cols = l.wide x.cols
  small : l.kind = 1 → x.rows ≤ 12

theorem cf_reluB (vs : Array Value) (W : World) : (callFunc 112 vs).run Tryd.prog W = .ok (.enter 112 vs) W := by kernel_rfl
theorem cf_shiftB (vs : Array Value) (W : World) : (callFunc 122 vs).run Tryd.prog W = .ok (.enter 122 vs) W := by kernel_rfl
theorem reluBack_any (p q : Nat) (r c r' c' : Int) (a a' : Option Addr) (n n' k0 k1 b o b' o' : Nat) (xs gs : List Int) (w : World)
    (hp : Box w p [.int .i64 r, .int .i64 c, .slice a n k0] 25) (hq : Box w q [.int .i64 r', .int .i64 c', .slice a' n' k1] 25) (hx : IntsAt w a n k0 b o xs) (hy : IntsAt w a' n' k1 b' o' gs) (i : Nat) (hi : i < n) (hi' : i < n') (hi2 : i ≤ 1000000) :
    Calls Tryd.prog 112 #[.int .i64 i, .pointer (some ⟨p, 0, none⟩), .pointer (some ⟨q, 0, none⟩)] w fun e w' => e = .returned (.int .i64 (if 0 < ix xs i then ix gs i else 0)) ∧ ∃ n, w' = w.drewN n := by
  have p2 := hp.cell 2
  have q2 := hq.cell 2
  obtain rfl := hx.ptr (by omega)
  obtain rfl := hy.ptr (by omega)
  have ca := hx.cell _ hi
  have cb := hy.cell _ hi'
  by_cases h : 0 < ix xs i
  · rw [if_pos h]
    go_enter Tryd.func112, Tryd.ntmps112
    go_wp2
    go_ret
    exact ⟨rfl, 0, rfl⟩
  · rw [if_neg h]
    go_enter Tryd.func112, Tryd.ntmps112
    go_wp2
    go_ret
    exact ⟨rfl, 0, rfl⟩
theorem shiftBack_any (p : Nat) (r c : Int) (a : Option Addr) (n k0 b o : Nat) (xs : List Int) (w : World)
    (hp : Box w p [.int .i64 r, .int .i64 c, .slice a n k0] 25) (hx : IntsAt w a n k0 b o xs) (i : Nat) (hi : i < n) (hi2 : i ≤ 1000000) :
    Calls Tryd.prog 122 #[.int .i64 i, .pointer (some ⟨p, 0, none⟩)] w fun e w' => e = .returned (.int .i64 (ix xs i)) ∧ ∃ n, w' = w.drewN n := by
  have p2 := hp.cell 2
  obtain rfl := hx.ptr (by omega)
  have ca := hx.cell _ hi
  go_enter Tryd.func122, Tryd.ntmps122
  go_wp2
  go_ret
  exact ⟨rfl, 0, rfl⟩
theorem same_len {x g : Mat} (hx : x.fault = 0) (hg : g.fault = 0) (h1 : g.rows = x.rows) (h2 : g.cols = x.cols) : g.cells.length = x.cells.length ∧ x.cells.length ≤ 288 := by
  obtain ⟨R, K, e1, e2, hR, hK, hl, _⟩ := matFault_ok hx
  obtain ⟨R', K', e3, e4, _, _, hl', _⟩ := matFault_ok hg
  obtain rfl : R = R' := by omega
  obtain rfl : K = K' := by omega
  exact ⟨by omega, by have := Nat.mul_le_mul hR hK; omega⟩
theorem back_2 (W B x g : Mat) (a0 ag aw ab : Option Addr) (n0 k0 b0 o0 ng kg bg og nw kw nb kb : Nat) (w : World) (x0 : IntsAt w a0 n0 k0 b0 o0 x.cells) (xg : IntsAt w ag ng kg bg og g.cells) (hg : Backs ⟨2, W, B⟩ x g) :
    Calls Tryd.prog 108 #[.agg #[], .agg #[.int .i64 2, .int .i64 W.rows, .int .i64 W.cols, .slice aw nw kw, .int .i64 B.rows, .int .i64 B.cols, .slice ab nb kb], .agg #[.int .i64 x.rows, .int .i64 x.cols, .slice a0 n0 k0], .agg #[.int .i64 g.rows, .int .i64 g.cols, .slice ag ng kg]] w fun e w' =>
      ∃ v d, e = .returned (.tuple #[v, d]) ∧ MatNew w.heap.size w' v (Lay.back ⟨2, W, B⟩ x g) ∧ GrdNew w.heap.size w' d (Lay.grad ⟨2, W, B⟩ x g) ∧ Below w.heap.size w w' := by
  have hcol : g.cols = x.cols := by rw [hg.cols]; exact if_neg (by simp)
  obtain ⟨hgl, hx288⟩ := same_len hg.goes.mat hg.mat hg.rows hcol
  have hn0 := x0.len
  have hng := xg.len
  have hbk : Lay.back ⟨2, W, B⟩ x g = ⟨x.rows, x.cols, upto (fun k => if 0 < ix x.cells k then ix g.cells k else 0) n0⟩ := by
    unfold Lay.back
    rw [if_neg (by simp), if_pos rfl, hn0]
  have hgr : Lay.grad ⟨2, W, B⟩ x g = Grd.none := by
    unfold Lay.grad
    rw [if_neg (by simp), if_pos rfl]
  rw [hbk, hgr]
  have hnn : ng = n0 := by omega
  have hn288 : n0 ≤ 288 := by omega
  clear hbk hgr hcol hgl hx288 hn0 hng hg
  subst hnn
  go_enter Tryd.func108, Tryd.ntmps108
  go_wp2_with fail
  refine (each_any x.rows x.cols a0 ng k0 (by omega) 112 #[.pointer (some ⟨w.heap.size + 1 + 1, 0, none⟩), .pointer (some ⟨w.heap.size + 1 + 1 + 1, 0, none⟩)] (fun k => if 0 < ix x.cells k then ix g.cells k else 0) _ cf_reluB ?_).mono ?_
  · intro i hi U hU
    exact reluBack_any _ _ _ _ _ _ _ _ _ _ _ _ _ _ _ _ x.cells g.cells U (((((Box.new' _ (w.heap.size + 1 + 1) _ _ (by simp)).alloc _).alloc _).alloc _).keep hU) ((((Box.new' _ (w.heap.size + 1 + 1 + 1) _ _ (by simp)).alloc _).alloc _).keep hU) ((x0.alloc _ |>.alloc _ |>.alloc _ |>.alloc _ |>.alloc _ |>.alloc _).keep hU) ((xg.alloc _ |>.alloc _ |>.alloc _ |>.alloc _ |>.alloc _ |>.alloc _).keep hU) i hi hi (by omega)
  · rintro e w1 ⟨b1, rfl, hbb, hi1, hb1⟩
    have B4 := ((Box.new' _ (w.heap.size + 1 + 1 + 1 + 1) [.int .i64 0, .int .i64 0, .slice none 0 0] 25 (by simp)).alloc _).keep hb1
    have B4c := B4.cell
    have B4f := B4.thawed
    have B4z := B4.lt
    have B4k := lt_add B4z
    have B5 := (Box.new' _ (w.heap.size + 1 + 1 + 1 + 1 + 1) [.int .i64 0, .int .i64 0, .slice none 0 0, .int .i64 0, .int .i64 0, .slice none 0 0] 46 (by simp)).keep hb1
    have B5c := B5.cell
    have B5f := B5.thawed
    have B5z := B5.lt
    have B5k := lt_add B5z
    simp at hbb
    go_wp2
    refine bodyPost_ret (v := .tuple #[.agg #[.int .i64 x.rows, .int .i64 x.cols, .slice (some ⟨b1, 0, none⟩) ng ng], .agg #[.int .i64 0, .int .i64 0, .slice none 0 0, .int .i64 0, .int .i64 0, .slice none 0 0]]) ?_ rfl ⟨_, _, rfl, ?_, ?_, ?_⟩
    · simp [results, Tryd.results108, go_sem, B4c, B5c]
    · exact MatNew.mk (b := b1) (off := 0) (fun _ => by omega) (by repeat (first | fail | (with_reducible exact hi1) | (with_reducible refine IntsAt.alloc ?_ _) | (with_reducible refine IntsAt.drewN ?_ _) | (with_reducible refine IntsAt.drew ?_) | (with_reducible refine IntsAt.set ?_ ?_ _; rotate_left 1; (intro h0; first | (dsimp only; omega) | omega | (simp; omega) | simp)) | exact hi1))
    · exact noGrd _ _
    · exact (by repeat (first | fail | (with_reducible exact Below.refl _ _) | (with_reducible refine Below.al ?_ _) | (with_reducible refine Below.drN ?_ _) | (with_reducible refine Below.drew ?_) | (with_reducible refine Below.st ?_ ?_ _; rotate_left 1; (first | (dsimp only; omega) | omega | (simp; omega) | simp)) | (with_reducible refine Below.go ?_ hb1) | exact Below.refl _ _))
end Go.Proofs.YtikcdjibflleeaaDoor
end
