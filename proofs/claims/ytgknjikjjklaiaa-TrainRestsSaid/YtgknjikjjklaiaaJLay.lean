/- Some small texts, joined: Lay5, Lay6, Lay7. -/
import Derived.Test.YtgknjikjjklaiaaLay4
import Derived.Test.YtgknjikjjklaiaaJMat
import Derived.BigQuiet
import Derived.Test.YtgknjikjjklaiaaUni
import Derived.BigRegion
section
set_option linter.unusedVariables false
set_option linter.unusedSimpArgs false
namespace Go.Proofs.Ytgknjikjjklaiaa
open Go.RowKit Gal

set_option maxRecDepth 100000
set_option maxHeartbeats 1000000
theorem cf_more (vs : Array Value) (W : World) : (callFunc 85 vs).run Try.prog W = .ok (.enter 85 vs) W := by kernel_rfl
theorem cf_relu (vs : Array Value) (W : World) : (callFunc 92 vs).run Try.prog W = .ok (.enter 92 vs) W := by kernel_rfl
theorem cf_scale (vs : Array Value) (W : World) : (callFunc 96 vs).run Try.prog W = .ok (.enter 96 vs) W := by kernel_rfl
theorem moreCell_any (p q : Nat) (r r' c' : Int) (K : Nat) (a a' : Option Addr) (n k0 b o n' k0' b' o' : Nat) (xs ys : List Int) (hK : 0 < K) (hK2 : K ≤ 12) (hn : K ≤ n') (w : World)
    (hp : Box w p [.int .i64 r, .int .i64 K, .slice a n k0] 25) (hq : Box w q [.int .i64 r', .int .i64 c', .slice a' n' k0'] 25) (hx : IntsAt w a n k0 b o xs) (hy : IntsAt w a' n' k0' b' o' ys) (i : Nat) (hi : i < n) (hi2 : i ≤ 1000000) :
    Calls Try.prog 85 #[.int .i64 i, .pointer (some ⟨p, 0, none⟩), .pointer (some ⟨q, 0, none⟩)] w fun e w' => e = .returned (.int .i64 (add (ix xs i) (ix ys (i % K)))) ∧ ∃ n, w' = w.drewN n := by
  have p1 := hp.cell 1
  have p2 := hp.cell 2
  have q2 := hq.cell 2
  have hm := Nat.mod_lt i hK
  obtain rfl := hx.ptr (by omega)
  obtain rfl := hy.ptr (by omega)
  have ca := hx.cell _ hi
  have cb := hy.cell (i % K) (by omega)
  obtain ⟨j, hj⟩ : ∃ j, j = i % K := ⟨_, rfl⟩
  rw [← hj] at cb hm ⊢
  have hmI : (i : Int) % (K : Int) = (j : Int) := by rw [← Int.natCast_emod, hj]
  have hmT : (i : Int).tmod (K : Int) = (j : Int) := by rw [Int.tmod_eq_emod_of_nonneg (by omega)]; exact hmI
  have hKz : ((K : Int) == 0) = false := by simp; omega
  have hjn : j < n' := by omega
  clear hj
  go_enter Try.func85, Try.ntmps85
  go_wp2_with fail
  go_quiet ((go_at_call 30; first | exact quiet0 (add_any _ _) | exact quiet1 (add_any _ _)))
  go_wp2
  go_ret
  exact ⟨rfl, _, rfl⟩
theorem reluCell_any (p : Nat) (r c : Int) (a : Option Addr) (n k0 b o : Nat) (xs : List Int) (w : World)
    (hp : Box w p [.int .i64 r, .int .i64 c, .slice a n k0] 25) (hx : IntsAt w a n k0 b o xs) (i : Nat) (hi : i < n) (hi2 : i ≤ 1000000) :
    Calls Try.prog 92 #[.int .i64 i, .pointer (some ⟨p, 0, none⟩)] w fun e w' => e = .returned (.int .i64 (max (ix xs i) 0)) ∧ ∃ n, w' = w.drewN n := by
  have p2 := hp.cell 2
  obtain rfl := hx.ptr (by omega)
  have ca := hx.cell _ hi
  go_enter Try.func92, Try.ntmps92
  go_wp2
  all_goals
    go_ret
    exact ⟨ret_int (by omega), 0, rfl⟩
theorem scaleCell_any (p q : Nat) (r c : Int) (a : Option Addr) (n k0 b o : Nat) (xs : List Int) (kd wr wc br bc : Int) (a1 a2 : Option Addr) (n1 k1 b1 o1 n2 k2 : Nat) (ws : List Int) (w : World)
    (hp : Box w p [.int .i64 r, .int .i64 c, .slice a n k0] 25) (hq : Box w q [.int .i64 kd, .int .i64 wr, .int .i64 wc, .slice a1 n1 k1, .int .i64 br, .int .i64 bc, .slice a2 n2 k2] 65)
    (hx : IntsAt w a n k0 b o xs) (hy : IntsAt w a1 n1 k1 b1 o1 ws) (h1 : 0 < n1) (i : Nat) (hi : i < n) (hi2 : i ≤ 1000000) :
    Calls Try.prog 96 #[.int .i64 i, .pointer (some ⟨p, 0, none⟩), .pointer (some ⟨q, 0, none⟩)] w fun e w' => e = .returned (.int .i64 (mul (ix xs i) (ix ws 0))) ∧ ∃ n, w' = w.drewN n := by
  have p2 := hp.cell 2
  have q3 := hq.cell 3
  obtain rfl := hx.ptr (by omega)
  obtain rfl := hy.ptr h1
  have ca := hx.cell _ hi
  have cb := hy.cell 0 h1
  rw [Nat.add_zero] at cb
  go_enter Try.func96, Try.ntmps96
  go_wp2_with fail
  go_quiet ((go_at_call 32; first | exact quiet0 (mul_any _ _) | exact quiet1 (mul_any _ _)))
  go_wp2
  go_ret
  exact ⟨rfl, _, rfl⟩

theorem more_any (r : Int) (K : Nat) (hK2 : K ≤ 12) (r' c' : Int) (a a' : Option Addr) (n k0 b o n' k0' b' o' : Nat) (xs ys : List Int) (hn : n ≤ 576) (hK : 0 < n → 0 < K) (hn' : K ≤ n') (w : World) (hx : IntsAt w a n k0 b o xs) (hy : IntsAt w a' n' k0' b' o' ys) :
    Calls Try.prog 80 #[.agg #[.int .i64 r, .int .i64 K, .slice a n k0], .agg #[.int .i64 r', .int .i64 c', .slice a' n' k0']] w fun e w' => ∃ v, e = .returned v ∧ MatNew w.heap.size w' v ⟨r, K, moreCells xs ys K⟩ ∧ Below w.heap.size w w' := by
  have hl := hx.len
  have HL := Lib.hid hl
  clear hl
  go_enter Try.func80, Try.ntmps80
  go_wp2_with fail
  refine (each_any r K a n k0 hn 85 #[.pointer (some ⟨w.heap.size, 0, none⟩), .pointer (some ⟨w.heap.size + 1, 0, none⟩)] (fun k => add (ix xs k) (ix ys (k % K))) _ cf_more ?_).mono ?_
  · intro i hi W hW
    exact moreCell_any _ _ r r' c' K _ _ _ _ _ _ _ _ _ _ xs ys (hK (by omega)) hK2 hn' W ((((Box.new' _ _ _ _ rfl).alloc _).alloc _).keep hW) (((Box.new' _ (w.heap.size + 1) _ _ (by simp)).alloc _).keep hW) ((hx.alloc _ |>.alloc _ |>.alloc _).keep hW) ((hy.alloc _ |>.alloc _ |>.alloc _).keep hW) i hi (by omega)
  · rintro e w1 ⟨b1, rfl, hbb, hi1, hb1⟩
    have B2 := (Box.new' _ (w.heap.size + 1 + 1) [.int .i64 0, .int .i64 0, .slice none 0 0] 25 (by simp)).keep hb1
    have B2c := B2.cell
    have B2f := B2.thawed
    have B2z := B2.lt
    have B2k := lt_add B2z
    simp at hbb
    go_wp2
    refine bodyPost_ret (v := .agg #[.int .i64 r, .int .i64 K, .slice (some ⟨b1, 0, none⟩) n n]) (by simp [results, Try.results80, go_sem, B2c]) rfl ⟨_, rfl, ?_, (by repeat (first | fail | (with_reducible exact Below.refl _ _) | (with_reducible refine Below.al ?_ _) | (with_reducible refine Below.drN ?_ _) | (with_reducible refine Below.drew ?_) | (with_reducible refine Below.st ?_ ?_ _; rotate_left 1; (first | (dsimp only; omega) | omega | (simp; omega) | simp)) | (with_reducible refine Below.go ?_ hb1) | exact Below.refl _ _))⟩
    unfold moreCells
    rw [HL.out]
    exact MatNew.mk (fun _ => by omega) (hi1.set3 (fun _ => by omega) _ _ _)

/-- what is asked of a layer and a matrix that goes in -/
structure Goes (l : Lay) (x : Mat) : Prop where
  lay : l.fault = 0
  mat : x.fault = 0
  takes : l.takes x.cols

theorem fault_form' {m : Mat} (h : m.fault = 0) : ∃ (R K : Nat) (xs : List Int), m = ⟨R, K, xs⟩ ∧ R ≤ 24 ∧ K ≤ 12 ∧ xs.length = R * K ∧ inEnds xs := by
  obtain ⟨R, K, eR, eK, hR, hK, hl, he⟩ := matFault_ok h
  obtain ⟨r, c, xs⟩ := m
  dsimp only at eR eK hl he
  subst eR eK
  exact ⟨R, K, xs, rfl, hR, hK, hl, he⟩
theorem run_2 (W B : Mat) (x : Mat) (a0 aw ab : Option Addr) (n0 k0 b0 o0 nw kw nb kb : Nat) (w : World) (x0 : IntsAt w a0 n0 k0 b0 o0 x.cells) (hg : Goes ⟨2, W, B⟩ x) :
    Calls Try.prog 89 #[.agg #[], .agg #[.int .i64 2, .int .i64 W.rows, .int .i64 W.cols, .slice aw nw kw, .int .i64 B.rows, .int .i64 B.cols, .slice ab nb kb], .agg #[.int .i64 x.rows, .int .i64 x.cols, .slice a0 n0 k0]] w fun e w' =>
      ∃ v, e = .returned v ∧ MatNew w.heap.size w' v (Lay.go ⟨2, W, B⟩ x) ∧ Below w.heap.size w w' := by
  obtain ⟨_, _, fw, fb, ft⟩ := Lay.fault_ok hg.lay
  obtain ⟨R, K, xs, rfl, hR, hK, hla, _⟩ := fault_form' hg.mat
  have hl0 := x0.len
  have hrk : R * K ≤ 288 := Nat.mul_le_mul hR hK
  dsimp only at x0 hl0
  obtain rfl : R * K = n0 := by rw [← hla]; exact hl0
  have hKp : 0 < R * K → 0 < K := fun h => by
    rcases Nat.eq_zero_or_pos K with h0 | h0
    · rw [h0, Nat.mul_zero] at h; omega
    · exact h0
  have hgo : Lay.go ⟨2, W, B⟩ ⟨R, K, xs⟩ = ⟨R, K, upto (fun k => max (ix xs k) 0) (R * K)⟩ := by
    unfold Lay.go
    rw [if_neg (by simp), if_pos rfl]
    dsimp only
    rw [hla]
  rw [hgo]
  clear hgo fw fb ft hg hla hl0
  go_enter Try.func89, Try.ntmps89
  go_wp2_with fail
  refine (each_any R K a0 (R * K) k0 (by omega) 92 #[.pointer (some ⟨w.heap.size + 1 + 1, 0, none⟩)] (fun k => max (ix xs k) 0) _ cf_relu ?_).mono ?_
  · intro i hi W hW
    exact reluCell_any _ _ _ _ _ _ _ _ xs W (((Box.new' _ (w.heap.size + 1 + 1) _ _ (by simp)).alloc _).keep hW) ((x0.alloc _ |>.alloc _ |>.alloc _ |>.alloc _).keep hW) i hi (by omega)
  · rintro e w1 ⟨b1, rfl, hbb, hi1, hb1⟩
    have B2 := (Box.new' _ (w.heap.size + 1 + 1 + 1) [.int .i64 0, .int .i64 0, .slice none 0 0] 25 (by simp)).keep hb1
    have B2c := B2.cell
    have B2f := B2.thawed
    have B2z := B2.lt
    have B2k := lt_add B2z
    simp at hbb
    go_wp2
    refine bodyPost_ret (v := .agg #[.int .i64 R, .int .i64 K, .slice (some ⟨b1, 0, none⟩) (R * K) (R * K)]) (by simp [results, Try.results89, go_sem, B2c]) rfl ⟨_, rfl, MatNew.mk (fun _ => by omega) (hi1.set3 (fun _ => by omega) _ _ _), (by repeat (first | fail | (with_reducible exact Below.refl _ _) | (with_reducible refine Below.al ?_ _) | (with_reducible refine Below.drN ?_ _) | (with_reducible refine Below.drew ?_) | (with_reducible refine Below.st ?_ ?_ _; rotate_left 1; (first | (dsimp only; omega) | omega | (simp; omega) | simp)) | (with_reducible refine Below.go ?_ hb1) | exact Below.refl _ _))⟩
theorem run_3 (W B : Mat) (x : Mat) (a0 aw ab : Option Addr) (n0 k0 b0 o0 nw kw bw ow nb kb : Nat) (w : World) (x0 : IntsAt w a0 n0 k0 b0 o0 x.cells) (xw : IntsAt w aw nw kw bw ow W.cells) (hg : Goes ⟨3, W, B⟩ x) :
    Calls Try.prog 95 #[.agg #[], .agg #[.int .i64 3, .int .i64 W.rows, .int .i64 W.cols, .slice aw nw kw, .int .i64 B.rows, .int .i64 B.cols, .slice ab nb kb], .agg #[.int .i64 x.rows, .int .i64 x.cols, .slice a0 n0 k0]] w fun e w' =>
      ∃ v, e = .returned v ∧ MatNew w.heap.size w' v (Lay.go ⟨3, W, B⟩ x) ∧ Below w.heap.size w w' := by
  obtain ⟨_, _, fw, fb, ft⟩ := Lay.fault_ok hg.lay
  obtain ⟨R, K, xs, rfl, hR, hK, hla, _⟩ := fault_form' hg.mat
  have hl0 := x0.len
  have hrk : R * K ≤ 288 := Nat.mul_le_mul hR hK
  dsimp only at x0 hl0
  obtain rfl : R * K = n0 := by rw [← hla]; exact hl0
  have hKp : 0 < R * K → 0 < K := fun h => by
    rcases Nat.eq_zero_or_pos K with h0 | h0
    · rw [h0, Nat.mul_zero] at h; omega
    · exact h0
  have hgo : Lay.go ⟨3, W, B⟩ ⟨R, K, xs⟩ = ⟨R, K, upto (fun k => mul (ix xs k) (ix W.cells 0)) (R * K)⟩ := by
    unfold Lay.go
    rw [if_neg (by simp), if_neg (by simp), if_pos rfl]
    dsimp only
    rw [hla]
  have hnw : 0 < nw := by
    obtain ⟨R', K', e1, e2, _, _, h3, _⟩ := matFault_ok fw
    unfold Lay.fits at ft
    dsimp only at ft e1 e2 h3
    have h4 : W.rows = 1 ∧ W.cols = 1 := by omega
    obtain rfl : R' = 1 := by omega
    obtain rfl : K' = 1 := by omega
    rw [← xw.len, h3]
    omega
  rw [hgo]
  clear hgo fw fb ft hg hla hl0
  go_enter Try.func95, Try.ntmps95
  go_wp2_with fail
  refine (each_any R K a0 (R * K) k0 (by omega) 96 #[.pointer (some ⟨w.heap.size + 1 + 1, 0, none⟩), .pointer (some ⟨w.heap.size + 1, 0, none⟩)] (fun k => mul (ix xs k) (ix W.cells 0)) _ cf_scale ?_).mono ?_
  · intro i hi U hU
    exact scaleCell_any _ _ _ _ _ _ _ _ _ xs _ _ _ _ _ _ _ _ _ _ _ _ _ W.cells U (((Box.new' _ (w.heap.size + 1 + 1) _ _ (by simp)).alloc _).keep hU) ((((Box.new' _ (w.heap.size + 1) _ _ (by simp)).alloc _).alloc _).keep hU) ((x0.alloc _ |>.alloc _ |>.alloc _ |>.alloc _).keep hU) ((xw.alloc _ |>.alloc _ |>.alloc _ |>.alloc _).keep hU) hnw i hi (by omega)
  · rintro e w1 ⟨b1, rfl, hbb, hi1, hb1⟩
    have B2 := (Box.new' _ (w.heap.size + 1 + 1 + 1) [.int .i64 0, .int .i64 0, .slice none 0 0] 25 (by simp)).keep hb1
    have B2c := B2.cell
    have B2f := B2.thawed
    have B2z := B2.lt
    have B2k := lt_add B2z
    simp at hbb
    go_wp2
    refine bodyPost_ret (v := .agg #[.int .i64 R, .int .i64 K, .slice (some ⟨b1, 0, none⟩) (R * K) (R * K)]) (by simp [results, Try.results95, go_sem, B2c]) rfl ⟨_, rfl, MatNew.mk (fun _ => by omega) (hi1.set3 (fun _ => by omega) _ _ _), (by repeat (first | fail | (with_reducible exact Below.refl _ _) | (with_reducible refine Below.al ?_ _) | (with_reducible refine Below.drN ?_ _) | (with_reducible refine Below.drew ?_) | (with_reducible refine Below.st ?_ ?_ _; rotate_left 1; (first | (dsimp only; omega) | omega | (simp; omega) | simp)) | (with_reducible refine Below.go ?_ hb1) | exact Below.refl _ _))⟩
theorem run_4 (W B : Mat) (x : Mat) (a0 aw ab : Option Addr) (n0 k0 b0 o0 nw kw nb kb bb ob : Nat) (w : World) (x0 : IntsAt w a0 n0 k0 b0 o0 x.cells) (xb : IntsAt w ab nb kb bb ob B.cells) (hg : Goes ⟨4, W, B⟩ x) :
    Calls Try.prog 99 #[.agg #[], .agg #[.int .i64 4, .int .i64 W.rows, .int .i64 W.cols, .slice aw nw kw, .int .i64 B.rows, .int .i64 B.cols, .slice ab nb kb], .agg #[.int .i64 x.rows, .int .i64 x.cols, .slice a0 n0 k0]] w fun e w' =>
      ∃ v, e = .returned v ∧ MatNew w.heap.size w' v (Lay.go ⟨4, W, B⟩ x) ∧ Below w.heap.size w w' := by
  have htk := hg.takes.2 rfl
  obtain ⟨_, _, fw, fb, ft⟩ := Lay.fault_ok hg.lay
  obtain ⟨R, K, xs, rfl, hR, hK, hla, _⟩ := fault_form' hg.mat
  have hl0 := x0.len
  have hrk : R * K ≤ 288 := Nat.mul_le_mul hR hK
  dsimp only at x0 hl0
  obtain rfl : R * K = n0 := by rw [← hla]; exact hl0
  have hKp : 0 < R * K → 0 < K := fun h => by
    rcases Nat.eq_zero_or_pos K with h0 | h0
    · rw [h0, Nat.mul_zero] at h; omega
    · exact h0
  have hgo : Lay.go ⟨4, W, B⟩ ⟨R, K, xs⟩ = ⟨R, K, moreCells xs B.cells K⟩ := by
    unfold Lay.go
    rw [if_neg (by simp), if_neg (by simp), if_neg (by simp)]
    simp only [Int.toNat_natCast]
  have hnb : K ≤ nb := by
    obtain ⟨R', K', e1, e2, _, _, h3, _⟩ := matFault_ok fb
    unfold Lay.fits at ft
    dsimp only at ft e1 e2 h3 htk
    have h4 : B.rows = 1 := by omega
    obtain rfl : R' = 1 := by omega
    rw [← xb.len, h3]
    omega
  rw [hgo]
  clear hgo fw fb ft hg hla hl0 htk
  go_enter Try.func99, Try.ntmps99
  go_wp2_with fail
  refine (more_any R K hK B.rows B.cols _ _ _ _ _ _ _ _ _ _ xs B.cells (by omega) hKp hnb _ (x0.alloc _ |>.alloc _ |>.alloc _ |>.alloc _) (xb.alloc _ |>.alloc _ |>.alloc _ |>.alloc _)).mono ?_
  rintro e w1 ⟨v1, rfl, ⟨a1, n1, k1, b1, o1, rfl, hn1, hi1⟩, hb1⟩
  have B2 := (Box.new' _ (w.heap.size + 1 + 1 + 1) [.int .i64 0, .int .i64 0, .slice none 0 0] 25 (by simp)).keep hb1
  have B2c := B2.cell
  have B2f := B2.thawed
  have B2z := B2.lt
  have B2k := lt_add B2z
  go_wp2
  refine bodyPost_ret (v := .agg #[.int .i64 R, .int .i64 K, .slice a1 n1 k1]) (by simp [results, Try.results99, go_sem, B2c]) rfl ⟨_, rfl, MatNew.mk (fun h => by have := hn1 h; simp at this; omega) (hi1.set3 (fun h => by have := hn1 h; simp at this; omega) _ _ _), (by repeat (first | fail | (with_reducible exact Below.refl _ _) | (with_reducible refine Below.al ?_ _) | (with_reducible refine Below.drN ?_ _) | (with_reducible refine Below.drew ?_) | (with_reducible refine Below.st ?_ ?_ _; rotate_left 1; (first | (dsimp only; omega) | omega | (simp; omega) | simp)) | (with_reducible refine Below.go ?_ hb1) | exact Below.refl _ _))⟩
theorem run_1 (W B : Mat) (x : Mat) (a0 aw ab : Option Addr) (n0 k0 b0 o0 nw kw bw ow nb kb bb ob : Nat) (w : World) (x0 : IntsAt w a0 n0 k0 b0 o0 x.cells) (xw : IntsAt w aw nw kw bw ow W.cells) (xb : IntsAt w ab nb kb bb ob B.cells) (hg : Goes ⟨1, W, B⟩ x) :
    Calls Try.prog 75 #[.agg #[], .agg #[.int .i64 1, .int .i64 W.rows, .int .i64 W.cols, .slice aw nw kw, .int .i64 B.rows, .int .i64 B.cols, .slice ab nb kb], .agg #[.int .i64 x.rows, .int .i64 x.cols, .slice a0 n0 k0]] w fun e w' =>
      ∃ v, e = .returned v ∧ MatNew w.heap.size w' v (Lay.go ⟨1, W, B⟩ x) ∧ Below w.heap.size w w' := by
  have htk := hg.takes.1 rfl
  obtain ⟨_, _, fw, fb, ft⟩ := Lay.fault_ok hg.lay
  have hf : mulFault x W = 0 := mulFault_zero hg.mat fw htk
  obtain ⟨R, K, e1, e2, hR, hK, hla, _⟩ := matFault_ok hg.mat
  obtain ⟨K', C, e3, e4, hK', hC, hlw, _⟩ := matFault_ok fw
  dsimp only at e3 e4 hlw htk
  have hgo : Lay.go ⟨1, W, B⟩ x = ⟨x.rows, (C : Nat), moreCells (matMul x W).cells B.cells C⟩ := by
    unfold Lay.go
    rw [if_pos rfl]
    dsimp only
    rw [e4]
    simp only [Int.toNat_natCast]
  have hcl : (matMul x W).cells.length = R * C := by
    unfold matMul
    dsimp only
    rw [grid_length, e1, e4]
    simp only [Int.toNat_natCast]
  have hnb : C ≤ nb := by
    obtain ⟨R', K'', e5, e6, _, _, h3, _⟩ := matFault_ok fb
    unfold Lay.fits at ft
    dsimp only at ft e5 e6 h3
    have h4 : B.rows = 1 ∧ B.cols = W.cols := by omega
    obtain rfl : R' = 1 := by omega
    rw [← xb.len, h3]
    omega
  have hrc : R * C ≤ 288 := Nat.mul_le_mul hR hC
  have hc4 : (W.cols : Int) = (C : Int) := e4
  rw [hgo]
  have HC := Lib.hid hcl
  have HC4 := Lib.hid hc4
  have hCp : 0 < R * C → 0 < C := fun h => by
    rcases Nat.eq_zero_or_pos C with h0 | h0
    · rw [h0, Nat.mul_zero] at h; omega
    · exact h0
  have HF := Lib.hid hf
  clear hgo fw fb ft hg hla htk hcl hc4 e1 e2 e3 e4 hlw hf
  go_enter Try.func75, Try.ntmps75
  go_wp2_with fail
  refine (matMul_ok x W _ _ _ (MatAt.mk (x0.alloc _ |>.alloc _ |>.alloc _ |>.alloc _)) (MatAt.mk (xw.alloc _ |>.alloc _ |>.alloc _ |>.alloc _)) HF.out).mono ?_
  rintro e w1 ⟨v1, rfl, ⟨a1, n1, k1, b1, o1, rfl, hi1⟩, hb1⟩
  have hn1 : n1 = R * C := by rw [← hi1.len]; exact HC.out
  have B0 := (((Box.new' _ (w.heap.size + 1) _ _ (by simp)).alloc _).alloc _).keep hb1
  have B0c := B0.cell
  have B0f := B0.thawed
  have B0z := B0.lt
  have B0k := lt_add B0z
  have B2 := (Box.new' _ (w.heap.size + 1 + 1 + 1) [.int .i64 0, .int .i64 0, .slice none 0 0] 25 (by simp)).keep hb1
  have B2c := B2.cell
  have B2f := B2.thawed
  have B2z := B2.lt
  have B2k := lt_add B2z
  have x3 := (xb.alloc _ |>.alloc _ |>.alloc _ |>.alloc _).keep hb1
  have HN1 := Lib.hid hn1
  clear hn1
  go_wp2_with fail
  have hcc : (matMul x W).cols = (C : Int) := HC4.out
  rw [hcc]
  refine (more_any (matMul x W).rows C hC B.rows B.cols _ _ n1 _ _ _ _ _ _ _ (matMul x W).cells B.cells (by have := HN1.out; omega) (by have := HN1.out; intro h; exact hCp (by omega)) hnb _ (hi1.alloc _) (x3.alloc _)).mono ?_
  rintro e w2 ⟨v2, rfl, ⟨a2, n2, k2, b2, o2, rfl, hn2, hi2⟩, hb2⟩
  have B3 := (B2.alloc _).keep hb2
  have B3c := B3.cell
  have B3f := B3.thawed
  have B3z := B3.lt
  have B3k := lt_add B3z
  have hs1 := hb1.size
  simp at hs1
  go_wp2
  refine bodyPost_ret (v := .agg #[.int .i64 x.rows, .int .i64 C, .slice a2 n2 k2]) (by simp [results, Try.results75, go_sem, B3c]; rfl) rfl ⟨_, rfl, MatNew.mk (fun h => by have := hn2 h; simp at this; omega) (hi2.set3 (fun h => by have := hn2 h; simp at this; omega) _ _ _), (by repeat (first | fail | (with_reducible exact Below.refl _ _) | (with_reducible refine Below.al ?_ _) | (with_reducible refine Below.drN ?_ _) | (with_reducible refine Below.drew ?_) | (with_reducible refine Below.st ?_ ?_ _; rotate_left 1; (first | (dsimp only; omega) | omega | (simp; omega) | simp)) | (with_reducible refine Below.go ?_ hb2) | (with_reducible refine Below.go ?_ hb1) | exact Below.refl _ _))⟩
end Go.Proofs.Ytgknjikjjklaiaa
end
section
set_option linter.unusedVariables false
set_option linter.unusedSimpArgs false
namespace Go.Proofs.Ytgknjikjjklaiaa
open Go.RowKit Gal
set_option maxRecDepth 100000
set_option maxHeartbeats 2000000
theorem m_run_1 (w : World) : (Go.method 249 108 (.agg #[]) "galley/layer.run").run Try.prog w = .ok (75, .agg #[]) w := by kernel_rfl
theorem n_run_1 (w : World) : (Go.nilAhead 249 108 (.agg #[]) "galley/layer.run").run Try.prog w = .ok (some false) w := by kernel_rfl
theorem m_run_2 (w : World) : (Go.method 249 111 (.agg #[]) "galley/layer.run").run Try.prog w = .ok (89, .agg #[]) w := by kernel_rfl
theorem n_run_2 (w : World) : (Go.nilAhead 249 111 (.agg #[]) "galley/layer.run").run Try.prog w = .ok (some false) w := by kernel_rfl
theorem m_run_3 (w : World) : (Go.method 249 112 (.agg #[]) "galley/layer.run").run Try.prog w = .ok (95, .agg #[]) w := by kernel_rfl
theorem n_run_3 (w : World) : (Go.nilAhead 249 112 (.agg #[]) "galley/layer.run").run Try.prog w = .ok (some false) w := by kernel_rfl
theorem m_run_4 (w : World) : (Go.method 249 113 (.agg #[]) "galley/layer.run").run Try.prog w = .ok (99, .agg #[]) w := by kernel_rfl
theorem n_run_4 (w : World) : (Go.nilAhead 249 113 (.agg #[]) "galley/layer.run").run Try.prog w = .ok (some false) w := by kernel_rfl

theorem layGo_bad (l : Lay) (m : Mat) (v u : Value) (w : World) (h : LayAt w v l) (hu : MatAt w u m) (hf : l.goFault m ≠ 0) :
    Calls Try.prog 18 #[v, u] w fun e w' => ∃ x, e = .returned (.tuple #[x, errV (l.goFault m)]) ∧ MatNew w.heap.size w' x (orNone (l.goFault m) (l.go m)) ∧ Below w.heap.size w w' := by
  obtain ⟨a, n, k, b, o, a', n', k', b', o', rfl, x0, x1⟩ := h
  obtain ⟨a2, n2, k2, b2, o2, rfl, x2⟩ := hu
  have hE : errV (l.goFault m) = .iface 56 (.int .i64 (l.goFault m)) := errV_err hf
  rw [orNone_bad hf]
  have HE := Lib.hid hE
  clear hf hE
  go_enter Try.func18, Try.ntmps18
  go_wp2_with fail
  refine (layEnter_any l m _ _ _ ⟨_, _, _, _, _, _, _, _, _, _, rfl, x0.alloc _ |>.alloc _ |>.alloc _, x1.alloc _ |>.alloc _ |>.alloc _⟩ (MatAt.mk (x2.alloc _ |>.alloc _ |>.alloc _))).mono ?_
  rw [HE.out]
  rintro e w1 ⟨rfl, hb1⟩
  have B2 := (Box.new' _ (w.heap.size + 1 + 1) [.int .i64 0, .int .i64 0, .slice none 0 0] 25 (by simp)).keep hb1
  have B2c := B2.cell
  have B2f := B2.thawed
  have B2z := B2.lt
  have B2k := lt_add B2z
  go_wp2
  exact bodyPost_ret (v := .tuple #[.agg #[.int .i64 0, .int .i64 0, .slice none 0 0], .iface 56 (.int .i64 (l.goFault m))]) (by simp [results, Try.results18, go_sem, B2c]) rfl ⟨_, by rw [HE.out], none_new _ _, (by repeat (first | fail | (with_reducible exact Below.refl _ _) | (with_reducible refine Below.al ?_ _) | (with_reducible refine Below.drN ?_ _) | (with_reducible refine Below.drew ?_) | (with_reducible refine Below.st ?_ ?_ _; rotate_left 1; (first | (dsimp only; omega) | omega | (simp; omega) | simp)) | (with_reducible refine Below.go ?_ hb1) | exact Below.refl _ _))⟩
theorem layGo_1 (W B m : Mat) (v u : Value) (w : World) (h : LayAt w v ⟨1, W, B⟩) (hu : MatAt w u m) (hf : Lay.goFault ⟨1, W, B⟩ m = 0) :
    Calls Try.prog 18 #[v, u] w fun e w' => ∃ x, e = .returned (.tuple #[x, .nilIface]) ∧ MatNew w.heap.size w' x (Lay.go ⟨1, W, B⟩ m) ∧ Below w.heap.size w w' := by
  obtain ⟨a, n, k, b, o, a', n', k', b', o', rfl, x0, x1⟩ := h
  obtain ⟨a2, n2, k2, b2, o2, rfl, x2⟩ := hu
  dsimp only at x0 x1
  obtain ⟨g1, g2, g3⟩ := Lay.goFault_ok hf
  have hgs : Goes ⟨1, W, B⟩ m := ⟨g1, g2, g3⟩
  have hE : errV (Lay.goFault ⟨1, W, B⟩ m) = .nilIface := errV_nil hf
  have HE := Lib.hid hE
  have hm : ∀ w, (Go.method 249 108 (.agg #[]) "galley/layer.run").run Try.prog w = .ok (75, .agg #[]) w := m_run_1
  have hn : ∀ w, (Go.nilAhead 249 108 (.agg #[]) "galley/layer.run").run Try.prog w = .ok (some false) w := n_run_1
  have HG := Lib.hid hgs
  clear hf hE g1 g2 g3 hgs
  go_enter Try.func18, Try.ntmps18
  go_wp2_with fail
  refine (layEnter_any ⟨1, W, B⟩ m _ _ _ ⟨_, _, _, _, _, _, _, _, _, _, rfl, x0.alloc _ |>.alloc _ |>.alloc _, x1.alloc _ |>.alloc _ |>.alloc _⟩ (MatAt.mk (x2.alloc _ |>.alloc _ |>.alloc _))).mono ?_
  rw [HE.out]
  rintro e w1 ⟨rfl, hb1⟩
  have B0 := ((Box.new w [.int .i64 1, .int .i64 W.rows, .int .i64 W.cols, .slice a n k, .int .i64 B.rows, .int .i64 B.cols, .slice a' n' k'] 65).alloc _ |>.alloc _).keep hb1
  have B0c := B0.cell
  have B0f := B0.thawed
  have B0z := B0.lt
  have B0k := lt_add B0z
  have B1 := ((Box.new' _ (w.heap.size + 1) [.int .i64 m.rows, .int .i64 m.cols, .slice a2 n2 k2] 25 (by simp)).alloc _).keep hb1
  have B1c := B1.cell
  have B1f := B1.thawed
  have B1z := B1.lt
  have B1k := lt_add B1z
  have B2 := (Box.new' _ (w.heap.size + 1 + 1) [.int .i64 0, .int .i64 0, .slice none 0 0] 25 (by simp)).keep hb1
  have B2c := B2.cell
  have B2f := B2.thawed
  have B2z := B2.lt
  have B2k := lt_add B2z
  have hkw1 : Below w.heap.size w w1 := (by repeat (first | fail | (with_reducible exact Below.refl _ _) | (with_reducible refine Below.al ?_ _) | (with_reducible refine Below.drN ?_ _) | (with_reducible refine Below.drew ?_) | (with_reducible refine Below.st ?_ ?_ _; rotate_left 1; (first | (dsimp only; omega) | omega | (simp; omega) | simp)) | (with_reducible refine Below.go ?_ hb1) | exact Below.refl _ _))
  replace x0 := x0.keep hkw1
  replace x1 := x1.keep hkw1
  replace x2 := x2.keep hkw1
  have y0 := x0.drewN 1
  have y1 := x1.drewN 1
  have y2 := x2.drewN 1
  have hs1 := hb1.size
  simp at hs1
  go_wp2_with fail
  go_region_held3 (fun w' => w'.cell? ⟨w.heap.size, 0, none⟩ = some (.int .i64 1) ∧ w'.cell? ⟨w.heap.size, 1, none⟩ = some (.int .i64 W.rows) ∧ w'.cell? ⟨w.heap.size, 2, none⟩ = some (.int .i64 W.cols) ∧ w'.cell? ⟨w.heap.size, 3, none⟩ = some (.slice a n k) ∧ w'.cell? ⟨w.heap.size, 4, none⟩ = some (.int .i64 B.rows) ∧ w'.cell? ⟨w.heap.size, 5, none⟩ = some (.int .i64 B.cols) ∧ w'.cell? ⟨w.heap.size, 6, none⟩ = some (.slice a' n' k') ∧ w'.cell? ⟨w.heap.size + 1, 0, none⟩ = some (.int .i64 m.rows) ∧ w'.cell? ⟨w.heap.size + 1, 1, none⟩ = some (.int .i64 m.cols) ∧ w'.cell? ⟨w.heap.size + 1, 2, none⟩ = some (.slice a2 n2 k2)) (first | (exact ⟨B0.cell 0, B0.cell 1, B0.cell 2, B0.cell 3, B0.cell 4, B0.cell 5, B0.cell 6, B1.cell 0, B1.cell 1, B1.cell 2⟩) | (exact ⟨(B0.drew.keep hb2).cell 0, (B0.drew.keep hb2).cell 1, (B0.drew.keep hb2).cell 2, (B0.drew.keep hb2).cell 3, (B0.drew.keep hb2).cell 4, (B0.drew.keep hb2).cell 5, (B0.drew.keep hb2).cell 6, (B1.drew.keep hb2).cell 0, (B1.drew.keep hb2).cell 1, (B1.drew.keep hb2).cell 2⟩) | (exact ⟨D0.cell 0, D0.cell 1, D0.cell 2, D0.cell 3, D0.cell 4, D0.cell 5, D0.cell 6, D1.cell 0, D1.cell 1, D1.cell 2⟩) | (go_keep; done)) (first | (go_at_call 34; go_must (refine (of_1 _).mono ?_); go_must (rintro e w' ⟨rfl, rfl⟩)) | (go_at_call 75; go_must (refine (run_1 W B m _ _ _ _ _ _ _ _ _ _ _ _ _ _ _ _ y2 y0 y1 HG.out).mono ?_); go_must (rintro e w2 ⟨v2, rfl, ⟨a3, n3, k3, b3, o3, rfl, hn3, x3⟩, hb2⟩); go_must (have C2 := B2.drew.keep hb2); go_must (have D0 := ((((B0.drew.keep hb2).far (a := ⟨w.heap.size + 1 + 1, 0, none⟩) (by dsimp only; omega) (.int .i64 (Lay.go ⟨1, W, B⟩ m).rows)).far (a := ⟨w.heap.size + 1 + 1, 1, none⟩) (by dsimp only; omega) (.int .i64 (Lay.go ⟨1, W, B⟩ m).cols)).far (a := ⟨w.heap.size + 1 + 1, 2, none⟩) (by dsimp only; omega) (.slice a3 n3 k3))); go_must (have D1 := ((((B1.drew.keep hb2).far (a := ⟨w.heap.size + 1 + 1, 0, none⟩) (by dsimp only; omega) (.int .i64 (Lay.go ⟨1, W, B⟩ m).rows)).far (a := ⟨w.heap.size + 1 + 1, 1, none⟩) (by dsimp only; omega) (.int .i64 (Lay.go ⟨1, W, B⟩ m).cols)).far (a := ⟨w.heap.size + 1 + 1, 2, none⟩) (by dsimp only; omega) (.slice a3 n3 k3))); have C2c := C2.cell; have C2f := C2.thawed))
  all_goals (
    go_wp2
    exact bodyPost_ret (v := .tuple #[.agg #[.int .i64 (Lay.go ⟨1, W, B⟩ m).rows, .int .i64 (Lay.go ⟨1, W, B⟩ m).cols, .slice a3 n3 k3], .nilIface]) (by simp [results, Try.results18, go_sem, C2c]) rfl ⟨_, rfl, MatNew.mk (fun h => by have := hn3 h; simp at this; omega) (x3.set3 (fun h => by have := hn3 h; simp at this; omega) _ _ _), (by repeat (first | fail | (with_reducible exact Below.refl _ _) | (with_reducible refine Below.al ?_ _) | (with_reducible refine Below.drN ?_ _) | (with_reducible refine Below.drew ?_) | (with_reducible refine Below.st ?_ ?_ _; rotate_left 1; (first | (dsimp only; omega) | omega | (simp; omega) | simp)) | (with_reducible refine Below.go ?_ hb2) | (with_reducible refine Below.go ?_ hb1) | exact Below.refl _ _))⟩)
theorem layGo_2 (W B m : Mat) (v u : Value) (w : World) (h : LayAt w v ⟨2, W, B⟩) (hu : MatAt w u m) (hf : Lay.goFault ⟨2, W, B⟩ m = 0) :
    Calls Try.prog 18 #[v, u] w fun e w' => ∃ x, e = .returned (.tuple #[x, .nilIface]) ∧ MatNew w.heap.size w' x (Lay.go ⟨2, W, B⟩ m) ∧ Below w.heap.size w w' := by
  obtain ⟨a, n, k, b, o, a', n', k', b', o', rfl, x0, x1⟩ := h
  obtain ⟨a2, n2, k2, b2, o2, rfl, x2⟩ := hu
  dsimp only at x0 x1
  obtain ⟨g1, g2, g3⟩ := Lay.goFault_ok hf
  have hgs : Goes ⟨2, W, B⟩ m := ⟨g1, g2, g3⟩
  have hE : errV (Lay.goFault ⟨2, W, B⟩ m) = .nilIface := errV_nil hf
  have HE := Lib.hid hE
  have hm : ∀ w, (Go.method 249 111 (.agg #[]) "galley/layer.run").run Try.prog w = .ok (89, .agg #[]) w := m_run_2
  have hn : ∀ w, (Go.nilAhead 249 111 (.agg #[]) "galley/layer.run").run Try.prog w = .ok (some false) w := n_run_2
  have HG := Lib.hid hgs
  clear hf hE g1 g2 g3 hgs
  go_enter Try.func18, Try.ntmps18
  go_wp2_with fail
  refine (layEnter_any ⟨2, W, B⟩ m _ _ _ ⟨_, _, _, _, _, _, _, _, _, _, rfl, x0.alloc _ |>.alloc _ |>.alloc _, x1.alloc _ |>.alloc _ |>.alloc _⟩ (MatAt.mk (x2.alloc _ |>.alloc _ |>.alloc _))).mono ?_
  rw [HE.out]
  rintro e w1 ⟨rfl, hb1⟩
  have B0 := ((Box.new w [.int .i64 2, .int .i64 W.rows, .int .i64 W.cols, .slice a n k, .int .i64 B.rows, .int .i64 B.cols, .slice a' n' k'] 65).alloc _ |>.alloc _).keep hb1
  have B0c := B0.cell
  have B0f := B0.thawed
  have B0z := B0.lt
  have B0k := lt_add B0z
  have B1 := ((Box.new' _ (w.heap.size + 1) [.int .i64 m.rows, .int .i64 m.cols, .slice a2 n2 k2] 25 (by simp)).alloc _).keep hb1
  have B1c := B1.cell
  have B1f := B1.thawed
  have B1z := B1.lt
  have B1k := lt_add B1z
  have B2 := (Box.new' _ (w.heap.size + 1 + 1) [.int .i64 0, .int .i64 0, .slice none 0 0] 25 (by simp)).keep hb1
  have B2c := B2.cell
  have B2f := B2.thawed
  have B2z := B2.lt
  have B2k := lt_add B2z
  have hkw1 : Below w.heap.size w w1 := (by repeat (first | fail | (with_reducible exact Below.refl _ _) | (with_reducible refine Below.al ?_ _) | (with_reducible refine Below.drN ?_ _) | (with_reducible refine Below.drew ?_) | (with_reducible refine Below.st ?_ ?_ _; rotate_left 1; (first | (dsimp only; omega) | omega | (simp; omega) | simp)) | (with_reducible refine Below.go ?_ hb1) | exact Below.refl _ _))
  replace x0 := x0.keep hkw1
  replace x1 := x1.keep hkw1
  replace x2 := x2.keep hkw1
  have y0 := x0.drewN 1
  have y1 := x1.drewN 1
  have y2 := x2.drewN 1
  have hs1 := hb1.size
  simp at hs1
  go_wp2_with fail
  go_region_held3 (fun w' => w'.cell? ⟨w.heap.size, 0, none⟩ = some (.int .i64 2) ∧ w'.cell? ⟨w.heap.size, 1, none⟩ = some (.int .i64 W.rows) ∧ w'.cell? ⟨w.heap.size, 2, none⟩ = some (.int .i64 W.cols) ∧ w'.cell? ⟨w.heap.size, 3, none⟩ = some (.slice a n k) ∧ w'.cell? ⟨w.heap.size, 4, none⟩ = some (.int .i64 B.rows) ∧ w'.cell? ⟨w.heap.size, 5, none⟩ = some (.int .i64 B.cols) ∧ w'.cell? ⟨w.heap.size, 6, none⟩ = some (.slice a' n' k') ∧ w'.cell? ⟨w.heap.size + 1, 0, none⟩ = some (.int .i64 m.rows) ∧ w'.cell? ⟨w.heap.size + 1, 1, none⟩ = some (.int .i64 m.cols) ∧ w'.cell? ⟨w.heap.size + 1, 2, none⟩ = some (.slice a2 n2 k2)) (first | (exact ⟨B0.cell 0, B0.cell 1, B0.cell 2, B0.cell 3, B0.cell 4, B0.cell 5, B0.cell 6, B1.cell 0, B1.cell 1, B1.cell 2⟩) | (exact ⟨(B0.drew.keep hb2).cell 0, (B0.drew.keep hb2).cell 1, (B0.drew.keep hb2).cell 2, (B0.drew.keep hb2).cell 3, (B0.drew.keep hb2).cell 4, (B0.drew.keep hb2).cell 5, (B0.drew.keep hb2).cell 6, (B1.drew.keep hb2).cell 0, (B1.drew.keep hb2).cell 1, (B1.drew.keep hb2).cell 2⟩) | (exact ⟨D0.cell 0, D0.cell 1, D0.cell 2, D0.cell 3, D0.cell 4, D0.cell 5, D0.cell 6, D1.cell 0, D1.cell 1, D1.cell 2⟩) | (go_keep; done)) (first | (go_at_call 34; go_must (refine (of_2 _).mono ?_); go_must (rintro e w' ⟨rfl, rfl⟩)) | (go_at_call 89; go_must (refine (run_2 W B m _ _ _ _ _ _ _ _ _ _ _ _ y2 HG.out).mono ?_); go_must (rintro e w2 ⟨v2, rfl, ⟨a3, n3, k3, b3, o3, rfl, hn3, x3⟩, hb2⟩); go_must (have C2 := B2.drew.keep hb2); go_must (have D0 := ((((B0.drew.keep hb2).far (a := ⟨w.heap.size + 1 + 1, 0, none⟩) (by dsimp only; omega) (.int .i64 (Lay.go ⟨2, W, B⟩ m).rows)).far (a := ⟨w.heap.size + 1 + 1, 1, none⟩) (by dsimp only; omega) (.int .i64 (Lay.go ⟨2, W, B⟩ m).cols)).far (a := ⟨w.heap.size + 1 + 1, 2, none⟩) (by dsimp only; omega) (.slice a3 n3 k3))); go_must (have D1 := ((((B1.drew.keep hb2).far (a := ⟨w.heap.size + 1 + 1, 0, none⟩) (by dsimp only; omega) (.int .i64 (Lay.go ⟨2, W, B⟩ m).rows)).far (a := ⟨w.heap.size + 1 + 1, 1, none⟩) (by dsimp only; omega) (.int .i64 (Lay.go ⟨2, W, B⟩ m).cols)).far (a := ⟨w.heap.size + 1 + 1, 2, none⟩) (by dsimp only; omega) (.slice a3 n3 k3))); have C2c := C2.cell; have C2f := C2.thawed))
  all_goals (
    go_wp2
    exact bodyPost_ret (v := .tuple #[.agg #[.int .i64 (Lay.go ⟨2, W, B⟩ m).rows, .int .i64 (Lay.go ⟨2, W, B⟩ m).cols, .slice a3 n3 k3], .nilIface]) (by simp [results, Try.results18, go_sem, C2c]) rfl ⟨_, rfl, MatNew.mk (fun h => by have := hn3 h; simp at this; omega) (x3.set3 (fun h => by have := hn3 h; simp at this; omega) _ _ _), (by repeat (first | fail | (with_reducible exact Below.refl _ _) | (with_reducible refine Below.al ?_ _) | (with_reducible refine Below.drN ?_ _) | (with_reducible refine Below.drew ?_) | (with_reducible refine Below.st ?_ ?_ _; rotate_left 1; (first | (dsimp only; omega) | omega | (simp; omega) | simp)) | (with_reducible refine Below.go ?_ hb2) | (with_reducible refine Below.go ?_ hb1) | exact Below.refl _ _))⟩)
theorem layGo_3 (W B m : Mat) (v u : Value) (w : World) (h : LayAt w v ⟨3, W, B⟩) (hu : MatAt w u m) (hf : Lay.goFault ⟨3, W, B⟩ m = 0) :
    Calls Try.prog 18 #[v, u] w fun e w' => ∃ x, e = .returned (.tuple #[x, .nilIface]) ∧ MatNew w.heap.size w' x (Lay.go ⟨3, W, B⟩ m) ∧ Below w.heap.size w w' := by
  obtain ⟨a, n, k, b, o, a', n', k', b', o', rfl, x0, x1⟩ := h
  obtain ⟨a2, n2, k2, b2, o2, rfl, x2⟩ := hu
  dsimp only at x0 x1
  obtain ⟨g1, g2, g3⟩ := Lay.goFault_ok hf
  have hgs : Goes ⟨3, W, B⟩ m := ⟨g1, g2, g3⟩
  have hE : errV (Lay.goFault ⟨3, W, B⟩ m) = .nilIface := errV_nil hf
  have HE := Lib.hid hE
  have hm : ∀ w, (Go.method 249 112 (.agg #[]) "galley/layer.run").run Try.prog w = .ok (95, .agg #[]) w := m_run_3
  have hn : ∀ w, (Go.nilAhead 249 112 (.agg #[]) "galley/layer.run").run Try.prog w = .ok (some false) w := n_run_3
  have HG := Lib.hid hgs
  clear hf hE g1 g2 g3 hgs
  go_enter Try.func18, Try.ntmps18
  go_wp2_with fail
  refine (layEnter_any ⟨3, W, B⟩ m _ _ _ ⟨_, _, _, _, _, _, _, _, _, _, rfl, x0.alloc _ |>.alloc _ |>.alloc _, x1.alloc _ |>.alloc _ |>.alloc _⟩ (MatAt.mk (x2.alloc _ |>.alloc _ |>.alloc _))).mono ?_
  rw [HE.out]
  rintro e w1 ⟨rfl, hb1⟩
  have B0 := ((Box.new w [.int .i64 3, .int .i64 W.rows, .int .i64 W.cols, .slice a n k, .int .i64 B.rows, .int .i64 B.cols, .slice a' n' k'] 65).alloc _ |>.alloc _).keep hb1
  have B0c := B0.cell
  have B0f := B0.thawed
  have B0z := B0.lt
  have B0k := lt_add B0z
  have B1 := ((Box.new' _ (w.heap.size + 1) [.int .i64 m.rows, .int .i64 m.cols, .slice a2 n2 k2] 25 (by simp)).alloc _).keep hb1
  have B1c := B1.cell
  have B1f := B1.thawed
  have B1z := B1.lt
  have B1k := lt_add B1z
  have B2 := (Box.new' _ (w.heap.size + 1 + 1) [.int .i64 0, .int .i64 0, .slice none 0 0] 25 (by simp)).keep hb1
  have B2c := B2.cell
  have B2f := B2.thawed
  have B2z := B2.lt
  have B2k := lt_add B2z
  have hkw1 : Below w.heap.size w w1 := (by repeat (first | fail | (with_reducible exact Below.refl _ _) | (with_reducible refine Below.al ?_ _) | (with_reducible refine Below.drN ?_ _) | (with_reducible refine Below.drew ?_) | (with_reducible refine Below.st ?_ ?_ _; rotate_left 1; (first | (dsimp only; omega) | omega | (simp; omega) | simp)) | (with_reducible refine Below.go ?_ hb1) | exact Below.refl _ _))
  replace x0 := x0.keep hkw1
  replace x1 := x1.keep hkw1
  replace x2 := x2.keep hkw1
  have y0 := x0.drewN 1
  have y1 := x1.drewN 1
  have y2 := x2.drewN 1
  have hs1 := hb1.size
  simp at hs1
  go_wp2_with fail
  go_region_held3 (fun w' => w'.cell? ⟨w.heap.size, 0, none⟩ = some (.int .i64 3) ∧ w'.cell? ⟨w.heap.size, 1, none⟩ = some (.int .i64 W.rows) ∧ w'.cell? ⟨w.heap.size, 2, none⟩ = some (.int .i64 W.cols) ∧ w'.cell? ⟨w.heap.size, 3, none⟩ = some (.slice a n k) ∧ w'.cell? ⟨w.heap.size, 4, none⟩ = some (.int .i64 B.rows) ∧ w'.cell? ⟨w.heap.size, 5, none⟩ = some (.int .i64 B.cols) ∧ w'.cell? ⟨w.heap.size, 6, none⟩ = some (.slice a' n' k') ∧ w'.cell? ⟨w.heap.size + 1, 0, none⟩ = some (.int .i64 m.rows) ∧ w'.cell? ⟨w.heap.size + 1, 1, none⟩ = some (.int .i64 m.cols) ∧ w'.cell? ⟨w.heap.size + 1, 2, none⟩ = some (.slice a2 n2 k2)) (first | (exact ⟨B0.cell 0, B0.cell 1, B0.cell 2, B0.cell 3, B0.cell 4, B0.cell 5, B0.cell 6, B1.cell 0, B1.cell 1, B1.cell 2⟩) | (exact ⟨(B0.drew.keep hb2).cell 0, (B0.drew.keep hb2).cell 1, (B0.drew.keep hb2).cell 2, (B0.drew.keep hb2).cell 3, (B0.drew.keep hb2).cell 4, (B0.drew.keep hb2).cell 5, (B0.drew.keep hb2).cell 6, (B1.drew.keep hb2).cell 0, (B1.drew.keep hb2).cell 1, (B1.drew.keep hb2).cell 2⟩) | (exact ⟨D0.cell 0, D0.cell 1, D0.cell 2, D0.cell 3, D0.cell 4, D0.cell 5, D0.cell 6, D1.cell 0, D1.cell 1, D1.cell 2⟩) | (go_keep; done)) (first | (go_at_call 34; go_must (refine (of_3 _).mono ?_); go_must (rintro e w' ⟨rfl, rfl⟩)) | (go_at_call 95; go_must (refine (run_3 W B m _ _ _ _ _ _ _ _ _ _ _ _ _ _ y2 y0 HG.out).mono ?_); go_must (rintro e w2 ⟨v2, rfl, ⟨a3, n3, k3, b3, o3, rfl, hn3, x3⟩, hb2⟩); go_must (have C2 := B2.drew.keep hb2); go_must (have D0 := ((((B0.drew.keep hb2).far (a := ⟨w.heap.size + 1 + 1, 0, none⟩) (by dsimp only; omega) (.int .i64 (Lay.go ⟨3, W, B⟩ m).rows)).far (a := ⟨w.heap.size + 1 + 1, 1, none⟩) (by dsimp only; omega) (.int .i64 (Lay.go ⟨3, W, B⟩ m).cols)).far (a := ⟨w.heap.size + 1 + 1, 2, none⟩) (by dsimp only; omega) (.slice a3 n3 k3))); go_must (have D1 := ((((B1.drew.keep hb2).far (a := ⟨w.heap.size + 1 + 1, 0, none⟩) (by dsimp only; omega) (.int .i64 (Lay.go ⟨3, W, B⟩ m).rows)).far (a := ⟨w.heap.size + 1 + 1, 1, none⟩) (by dsimp only; omega) (.int .i64 (Lay.go ⟨3, W, B⟩ m).cols)).far (a := ⟨w.heap.size + 1 + 1, 2, none⟩) (by dsimp only; omega) (.slice a3 n3 k3))); have C2c := C2.cell; have C2f := C2.thawed))
  all_goals (
    go_wp2
    exact bodyPost_ret (v := .tuple #[.agg #[.int .i64 (Lay.go ⟨3, W, B⟩ m).rows, .int .i64 (Lay.go ⟨3, W, B⟩ m).cols, .slice a3 n3 k3], .nilIface]) (by simp [results, Try.results18, go_sem, C2c]) rfl ⟨_, rfl, MatNew.mk (fun h => by have := hn3 h; simp at this; omega) (x3.set3 (fun h => by have := hn3 h; simp at this; omega) _ _ _), (by repeat (first | fail | (with_reducible exact Below.refl _ _) | (with_reducible refine Below.al ?_ _) | (with_reducible refine Below.drN ?_ _) | (with_reducible refine Below.drew ?_) | (with_reducible refine Below.st ?_ ?_ _; rotate_left 1; (first | (dsimp only; omega) | omega | (simp; omega) | simp)) | (with_reducible refine Below.go ?_ hb2) | (with_reducible refine Below.go ?_ hb1) | exact Below.refl _ _))⟩)
theorem layGo_4 (W B m : Mat) (v u : Value) (w : World) (h : LayAt w v ⟨4, W, B⟩) (hu : MatAt w u m) (hf : Lay.goFault ⟨4, W, B⟩ m = 0) :
    Calls Try.prog 18 #[v, u] w fun e w' => ∃ x, e = .returned (.tuple #[x, .nilIface]) ∧ MatNew w.heap.size w' x (Lay.go ⟨4, W, B⟩ m) ∧ Below w.heap.size w w' := by
  obtain ⟨a, n, k, b, o, a', n', k', b', o', rfl, x0, x1⟩ := h
  obtain ⟨a2, n2, k2, b2, o2, rfl, x2⟩ := hu
  dsimp only at x0 x1
  obtain ⟨g1, g2, g3⟩ := Lay.goFault_ok hf
  have hgs : Goes ⟨4, W, B⟩ m := ⟨g1, g2, g3⟩
  have hE : errV (Lay.goFault ⟨4, W, B⟩ m) = .nilIface := errV_nil hf
  have HE := Lib.hid hE
  have hm : ∀ w, (Go.method 249 113 (.agg #[]) "galley/layer.run").run Try.prog w = .ok (99, .agg #[]) w := m_run_4
  have hn : ∀ w, (Go.nilAhead 249 113 (.agg #[]) "galley/layer.run").run Try.prog w = .ok (some false) w := n_run_4
  have HG := Lib.hid hgs
  clear hf hE g1 g2 g3 hgs
  go_enter Try.func18, Try.ntmps18
  go_wp2_with fail
  refine (layEnter_any ⟨4, W, B⟩ m _ _ _ ⟨_, _, _, _, _, _, _, _, _, _, rfl, x0.alloc _ |>.alloc _ |>.alloc _, x1.alloc _ |>.alloc _ |>.alloc _⟩ (MatAt.mk (x2.alloc _ |>.alloc _ |>.alloc _))).mono ?_
  rw [HE.out]
  rintro e w1 ⟨rfl, hb1⟩
  have B0 := ((Box.new w [.int .i64 4, .int .i64 W.rows, .int .i64 W.cols, .slice a n k, .int .i64 B.rows, .int .i64 B.cols, .slice a' n' k'] 65).alloc _ |>.alloc _).keep hb1
  have B0c := B0.cell
  have B0f := B0.thawed
  have B0z := B0.lt
  have B0k := lt_add B0z
  have B1 := ((Box.new' _ (w.heap.size + 1) [.int .i64 m.rows, .int .i64 m.cols, .slice a2 n2 k2] 25 (by simp)).alloc _).keep hb1
  have B1c := B1.cell
  have B1f := B1.thawed
  have B1z := B1.lt
  have B1k := lt_add B1z
  have B2 := (Box.new' _ (w.heap.size + 1 + 1) [.int .i64 0, .int .i64 0, .slice none 0 0] 25 (by simp)).keep hb1
  have B2c := B2.cell
  have B2f := B2.thawed
  have B2z := B2.lt
  have B2k := lt_add B2z
  have hkw1 : Below w.heap.size w w1 := (by repeat (first | fail | (with_reducible exact Below.refl _ _) | (with_reducible refine Below.al ?_ _) | (with_reducible refine Below.drN ?_ _) | (with_reducible refine Below.drew ?_) | (with_reducible refine Below.st ?_ ?_ _; rotate_left 1; (first | (dsimp only; omega) | omega | (simp; omega) | simp)) | (with_reducible refine Below.go ?_ hb1) | exact Below.refl _ _))
  replace x0 := x0.keep hkw1
  replace x1 := x1.keep hkw1
  replace x2 := x2.keep hkw1
  have y0 := x0.drewN 1
  have y1 := x1.drewN 1
  have y2 := x2.drewN 1
  have hs1 := hb1.size
  simp at hs1
  go_wp2_with fail
  go_region_held3 (fun w' => w'.cell? ⟨w.heap.size, 0, none⟩ = some (.int .i64 4) ∧ w'.cell? ⟨w.heap.size, 1, none⟩ = some (.int .i64 W.rows) ∧ w'.cell? ⟨w.heap.size, 2, none⟩ = some (.int .i64 W.cols) ∧ w'.cell? ⟨w.heap.size, 3, none⟩ = some (.slice a n k) ∧ w'.cell? ⟨w.heap.size, 4, none⟩ = some (.int .i64 B.rows) ∧ w'.cell? ⟨w.heap.size, 5, none⟩ = some (.int .i64 B.cols) ∧ w'.cell? ⟨w.heap.size, 6, none⟩ = some (.slice a' n' k') ∧ w'.cell? ⟨w.heap.size + 1, 0, none⟩ = some (.int .i64 m.rows) ∧ w'.cell? ⟨w.heap.size + 1, 1, none⟩ = some (.int .i64 m.cols) ∧ w'.cell? ⟨w.heap.size + 1, 2, none⟩ = some (.slice a2 n2 k2)) (first | (exact ⟨B0.cell 0, B0.cell 1, B0.cell 2, B0.cell 3, B0.cell 4, B0.cell 5, B0.cell 6, B1.cell 0, B1.cell 1, B1.cell 2⟩) | (exact ⟨(B0.drew.keep hb2).cell 0, (B0.drew.keep hb2).cell 1, (B0.drew.keep hb2).cell 2, (B0.drew.keep hb2).cell 3, (B0.drew.keep hb2).cell 4, (B0.drew.keep hb2).cell 5, (B0.drew.keep hb2).cell 6, (B1.drew.keep hb2).cell 0, (B1.drew.keep hb2).cell 1, (B1.drew.keep hb2).cell 2⟩) | (exact ⟨D0.cell 0, D0.cell 1, D0.cell 2, D0.cell 3, D0.cell 4, D0.cell 5, D0.cell 6, D1.cell 0, D1.cell 1, D1.cell 2⟩) | (go_keep; done)) (first | (go_at_call 34; go_must (refine (of_4 _).mono ?_); go_must (rintro e w' ⟨rfl, rfl⟩)) | (go_at_call 99; go_must (refine (run_4 W B m _ _ _ _ _ _ _ _ _ _ _ _ _ _ y2 y1 HG.out).mono ?_); go_must (rintro e w2 ⟨v2, rfl, ⟨a3, n3, k3, b3, o3, rfl, hn3, x3⟩, hb2⟩); go_must (have C2 := B2.drew.keep hb2); go_must (have D0 := ((((B0.drew.keep hb2).far (a := ⟨w.heap.size + 1 + 1, 0, none⟩) (by dsimp only; omega) (.int .i64 (Lay.go ⟨4, W, B⟩ m).rows)).far (a := ⟨w.heap.size + 1 + 1, 1, none⟩) (by dsimp only; omega) (.int .i64 (Lay.go ⟨4, W, B⟩ m).cols)).far (a := ⟨w.heap.size + 1 + 1, 2, none⟩) (by dsimp only; omega) (.slice a3 n3 k3))); go_must (have D1 := ((((B1.drew.keep hb2).far (a := ⟨w.heap.size + 1 + 1, 0, none⟩) (by dsimp only; omega) (.int .i64 (Lay.go ⟨4, W, B⟩ m).rows)).far (a := ⟨w.heap.size + 1 + 1, 1, none⟩) (by dsimp only; omega) (.int .i64 (Lay.go ⟨4, W, B⟩ m).cols)).far (a := ⟨w.heap.size + 1 + 1, 2, none⟩) (by dsimp only; omega) (.slice a3 n3 k3))); have C2c := C2.cell; have C2f := C2.thawed))
  all_goals (
    go_wp2
    exact bodyPost_ret (v := .tuple #[.agg #[.int .i64 (Lay.go ⟨4, W, B⟩ m).rows, .int .i64 (Lay.go ⟨4, W, B⟩ m).cols, .slice a3 n3 k3], .nilIface]) (by simp [results, Try.results18, go_sem, C2c]) rfl ⟨_, rfl, MatNew.mk (fun h => by have := hn3 h; simp at this; omega) (x3.set3 (fun h => by have := hn3 h; simp at this; omega) _ _ _), (by repeat (first | fail | (with_reducible exact Below.refl _ _) | (with_reducible refine Below.al ?_ _) | (with_reducible refine Below.drN ?_ _) | (with_reducible refine Below.drew ?_) | (with_reducible refine Below.st ?_ ?_ _; rotate_left 1; (first | (dsimp only; omega) | omega | (simp; omega) | simp)) | (with_reducible refine Below.go ?_ hb2) | (with_reducible refine Below.go ?_ hb1) | exact Below.refl _ _))⟩)
theorem layGo_any (l : Lay) (m : Mat) (v u : Value) (w : World) (h : LayAt w v l) (hu : MatAt w u m) :
    Calls Try.prog 18 #[v, u] w fun e w' => ∃ x, e = .returned (.tuple #[x, errV (l.goFault m)]) ∧ MatNew w.heap.size w' x (orNone (l.goFault m) (l.go m)) ∧ Below w.heap.size w w' := by
  by_cases hf : l.goFault m = 0
  · rw [orNone_ok hf, errV_nil hf]
    obtain ⟨g1, g2, g3⟩ := Lay.goFault_ok hf
    obtain ⟨h1, h2, _, _, _⟩ := Lay.fault_ok g1
    obtain ⟨kd, W, B⟩ := l
    dsimp only at h1 h2
    rcases (by omega : kd = 1 ∨ kd = 2 ∨ kd = 3 ∨ kd = 4) with rfl | rfl | rfl | rfl
    · exact layGo_1 W B m v u w h hu hf
    · exact layGo_2 W B m v u w h hu hf
    · exact layGo_3 W B m v u w h hu hf
    · exact layGo_4 W B m v u w h hu hf
  · exact layGo_bad l m v u w h hu hf
end Go.Proofs.Ytgknjikjjklaiaa
end
section
set_option linter.unusedVariables false
set_option linter.unusedSimpArgs false
namespace Go.Proofs.Ytgknjikjjklaiaa
open Go.RowKit Gal
set_option maxRecDepth 100000
set_option maxHeartbeats 2000000

/-- a value reads as what W and B are to be turned by, in blocks from base on -/
def GrdNew (base : Nat) (w : World) (v : Value) (d : Grd) : Prop := ∃ a n cap b o a' n' cap' b' o', v = .agg #[.int .i64 d.W.rows, .int .i64 d.W.cols, .slice a n cap, .int .i64 d.B.rows, .int .i64 d.B.cols, .slice a' n' cap'] ∧
  (0 < n → base ≤ b) ∧ IntsAt w a n cap b o d.W.cells ∧ (0 < n' → base ≤ b') ∧ IntsAt w a' n' cap' b' o' d.B.cells
theorem noInts (w : World) : IntsAt w none 0 0 0 0 [] := ⟨rfl, Nat.le_refl _, Nat.zero_le _, fun h => absurd h (Nat.lt_irrefl _), fun h => absurd h (Nat.lt_irrefl _), fun i hi => absurd hi (Nat.not_lt_zero _)⟩
theorem noGrd (base : Nat) (w : World) : GrdNew base w (.agg #[.int .i64 0, .int .i64 0, .slice none 0 0, .int .i64 0, .int .i64 0, .slice none 0 0]) Grd.none :=
  ⟨none, 0, 0, 0, 0, none, 0, 0, 0, 0, rfl, fun h => absurd h (Nat.lt_irrefl _), noInts w, fun h => absurd h (Nat.lt_irrefl _), noInts w⟩
/-- what is asked of a layer and what goes in and what goes back -/
structure Backs (l : Lay) (x g : Mat) : Prop where
  goes : Goes l x
  mat : g.fault = 0
  rows : g.rows = x.rows
  cols : g.cols = l.wide x.cols
  small : l.kind = 1 → x.rows ≤ 12

theorem cf_reluB (vs : Array Value) (W : World) : (callFunc 90 vs).run Try.prog W = .ok (.enter 90 vs) W := by kernel_rfl
theorem cf_shiftB (vs : Array Value) (W : World) : (callFunc 101 vs).run Try.prog W = .ok (.enter 101 vs) W := by kernel_rfl
theorem reluBack_any (p q : Nat) (r c r' c' : Int) (a a' : Option Addr) (n n' k0 k1 b o b' o' : Nat) (xs gs : List Int) (w : World)
    (hp : Box w p [.int .i64 r, .int .i64 c, .slice a n k0] 25) (hq : Box w q [.int .i64 r', .int .i64 c', .slice a' n' k1] 25) (hx : IntsAt w a n k0 b o xs) (hy : IntsAt w a' n' k1 b' o' gs) (i : Nat) (hi : i < n) (hi' : i < n') (hi2 : i ≤ 1000000) :
    Calls Try.prog 90 #[.int .i64 i, .pointer (some ⟨p, 0, none⟩), .pointer (some ⟨q, 0, none⟩)] w fun e w' => e = .returned (.int .i64 (if 0 < ix xs i then ix gs i else 0)) ∧ ∃ n, w' = w.drewN n := by
  have p2 := hp.cell 2
  have q2 := hq.cell 2
  obtain rfl := hx.ptr (by omega)
  obtain rfl := hy.ptr (by omega)
  have ca := hx.cell _ hi
  have cb := hy.cell _ hi'
  by_cases h : 0 < ix xs i
  · rw [if_pos h]
    go_enter Try.func90, Try.ntmps90
    go_wp2
    go_ret
    exact ⟨rfl, 0, rfl⟩
  · rw [if_neg h]
    go_enter Try.func90, Try.ntmps90
    go_wp2
    go_ret
    exact ⟨rfl, 0, rfl⟩
theorem shiftBack_any (p : Nat) (r c : Int) (a : Option Addr) (n k0 b o : Nat) (xs : List Int) (w : World)
    (hp : Box w p [.int .i64 r, .int .i64 c, .slice a n k0] 25) (hx : IntsAt w a n k0 b o xs) (i : Nat) (hi : i < n) (hi2 : i ≤ 1000000) :
    Calls Try.prog 101 #[.int .i64 i, .pointer (some ⟨p, 0, none⟩)] w fun e w' => e = .returned (.int .i64 (ix xs i)) ∧ ∃ n, w' = w.drewN n := by
  have p2 := hp.cell 2
  obtain rfl := hx.ptr (by omega)
  have ca := hx.cell _ hi
  go_enter Try.func101, Try.ntmps101
  go_wp2
  go_ret
  exact ⟨rfl, 0, rfl⟩
theorem same_len {x g : Mat} (hx : x.fault = 0) (hg : g.fault = 0) (h1 : g.rows = x.rows) (h2 : g.cols = x.cols) : g.cells.length = x.cells.length ∧ x.cells.length ≤ 288 := by
  obtain ⟨R, K, e1, e2, hR, hK, hl, _⟩ := matFault_ok hx
  obtain ⟨R', K', e3, e4, _, _, hl', _⟩ := matFault_ok hg
  obtain rfl : R = R' := by omega
  obtain rfl : K = K' := by omega
  exact ⟨by omega, by have := Nat.mul_le_mul hR hK; omega⟩
theorem back_2 (W B x g : Mat) (a0 ag aw ab : Option Addr) (n0 k0 b0 o0 ng kg bg og nw kw nb kb : Nat) (w : World) (x0 : IntsAt w a0 n0 k0 b0 o0 x.cells) (xg : IntsAt w ag ng kg bg og g.cells) (hg : Backs ⟨2, W, B⟩ x g) :
    Calls Try.prog 87 #[.agg #[], .agg #[.int .i64 2, .int .i64 W.rows, .int .i64 W.cols, .slice aw nw kw, .int .i64 B.rows, .int .i64 B.cols, .slice ab nb kb], .agg #[.int .i64 x.rows, .int .i64 x.cols, .slice a0 n0 k0], .agg #[.int .i64 g.rows, .int .i64 g.cols, .slice ag ng kg]] w fun e w' =>
      ∃ v d, e = .returned (.tuple #[v, d]) ∧ MatNew w.heap.size w' v (Lay.back ⟨2, W, B⟩ x g) ∧ GrdNew w.heap.size w' d (Lay.grad ⟨2, W, B⟩ x g) ∧ Below w.heap.size w w' := by
  have hcol : g.cols = x.cols := by rw [hg.cols]; exact if_neg (by simp)
  obtain ⟨hgl, hx288⟩ := same_len hg.goes.mat hg.mat hg.rows hcol
  have hn0 := x0.len
  have hng := xg.len
  have hbk : Lay.back ⟨2, W, B⟩ x g = ⟨x.rows, x.cols, upto (fun k => if 0 < ix x.cells k then ix g.cells k else 0) n0⟩ := by
    unfold Lay.back
    rw [if_neg (by simp), if_pos rfl, hn0]
  have hgr : Lay.grad ⟨2, W, B⟩ x g = Grd.none := by
    unfold Lay.grad
    rw [if_neg (by simp), if_pos rfl]
  rw [hbk, hgr]
  have hnn : ng = n0 := by omega
  have hn288 : n0 ≤ 288 := by omega
  clear hbk hgr hcol hgl hx288 hn0 hng hg
  subst hnn
  go_enter Try.func87, Try.ntmps87
  go_wp2_with fail
  refine (each_any x.rows x.cols a0 ng k0 (by omega) 90 #[.pointer (some ⟨w.heap.size + 1 + 1, 0, none⟩), .pointer (some ⟨w.heap.size + 1 + 1 + 1, 0, none⟩)] (fun k => if 0 < ix x.cells k then ix g.cells k else 0) _ cf_reluB ?_).mono ?_
  · intro i hi U hU
    exact reluBack_any _ _ _ _ _ _ _ _ _ _ _ _ _ _ _ _ x.cells g.cells U (((((Box.new' _ (w.heap.size + 1 + 1) _ _ (by simp)).alloc _).alloc _).alloc _).keep hU) ((((Box.new' _ (w.heap.size + 1 + 1 + 1) _ _ (by simp)).alloc _).alloc _).keep hU) ((x0.alloc _ |>.alloc _ |>.alloc _ |>.alloc _ |>.alloc _ |>.alloc _).keep hU) ((xg.alloc _ |>.alloc _ |>.alloc _ |>.alloc _ |>.alloc _ |>.alloc _).keep hU) i hi hi (by omega)
  · rintro e w1 ⟨b1, rfl, hbb, hi1, hb1⟩
    have B4 := ((Box.new' _ (w.heap.size + 1 + 1 + 1 + 1) [.int .i64 0, .int .i64 0, .slice none 0 0] 25 (by simp)).alloc _).keep hb1
    have B4c := B4.cell
    have B4f := B4.thawed
    have B4z := B4.lt
    have B4k := lt_add B4z
    have B5 := (Box.new' _ (w.heap.size + 1 + 1 + 1 + 1 + 1) [.int .i64 0, .int .i64 0, .slice none 0 0, .int .i64 0, .int .i64 0, .slice none 0 0] 67 (by simp)).keep hb1
    have B5c := B5.cell
    have B5f := B5.thawed
    have B5z := B5.lt
    have B5k := lt_add B5z
    simp at hbb
    go_wp2
    refine bodyPost_ret (v := .tuple #[.agg #[.int .i64 x.rows, .int .i64 x.cols, .slice (some ⟨b1, 0, none⟩) ng ng], .agg #[.int .i64 0, .int .i64 0, .slice none 0 0, .int .i64 0, .int .i64 0, .slice none 0 0]]) ?_ rfl ⟨_, _, rfl, ?_, ?_, ?_⟩
    · simp [results, Try.results87, go_sem, B4c, B5c]
    · exact MatNew.mk (b := b1) (off := 0) (fun _ => by omega) (by repeat (first | fail | (with_reducible exact hi1) | (with_reducible refine IntsAt.alloc ?_ _) | (with_reducible refine IntsAt.drewN ?_ _) | (with_reducible refine IntsAt.drew ?_) | (with_reducible refine IntsAt.set ?_ ?_ _; rotate_left 1; (intro h0; first | (dsimp only; omega) | omega | (simp; omega) | simp)) | exact hi1))
    · exact noGrd _ _
    · exact (by repeat (first | fail | (with_reducible exact Below.refl _ _) | (with_reducible refine Below.al ?_ _) | (with_reducible refine Below.drN ?_ _) | (with_reducible refine Below.drew ?_) | (with_reducible refine Below.st ?_ ?_ _; rotate_left 1; (first | (dsimp only; omega) | omega | (simp; omega) | simp)) | (with_reducible refine Below.go ?_ hb1) | exact Below.refl _ _))
end Go.Proofs.Ytgknjikjjklaiaa
end
