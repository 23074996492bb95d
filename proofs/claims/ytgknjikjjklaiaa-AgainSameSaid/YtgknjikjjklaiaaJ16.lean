/- Texts joined: Lay7, FormsG, SameM. -/
import Derived.Test.YtgknjikjjklaiaaJ15
import Derived.BigRegion
import Derived.Test.YtgknjikjjklaiaaJ05
import Derived.Test.YtgknjikjjklaiaaJ08
import Derived.Test.YtgknjikjjklaiaaJ02
import Derived.Test.YtgknjikjjklaiaaJ11
section
set_option linter.unusedVariables false
set_option linter.unusedSimpArgs false
namespace Go.Proofs.Ytgknjikjjklaiaa
open Go.RowKit Gal
set_option maxRecDepth 100000
set_option maxHeartbeats 2000000
def GrdNew (base : Nat) (w : World) (v : Value) (d : Grd) : Prop := ∃ a n cap b o a' n' cap' b' o', v = .agg #[.int .i64 d.W.rows, .int .i64 d.W.cols, .slice a n cap, .int .i64 d.B.rows, .int .i64 d.B.cols, .slice a' n' cap'] ∧
 (0 < n → base ≤ b) ∧ IntsAt w a n cap b o d.W.cells ∧ (0 < n' → base ≤ b') ∧ IntsAt w a' n' cap' b' o' d.B.cells
theorem noInts (w : World) : IntsAt w none 0 0 0 0 [] := ⟨rfl, Nat.le_refl _, Nat.zero_le _, fun h => absurd h (Nat.lt_irrefl _), fun h => absurd h (Nat.lt_irrefl _), fun i hi => absurd hi (Nat.not_lt_zero _)⟩
theorem noGrd (base : Nat) (w : World) : GrdNew base w (.agg #[.int .i64 0, .int .i64 0, .slice none 0 0, .int .i64 0, .int .i64 0, .slice none 0 0]) Grd.none :=
 ⟨none, 0, 0, 0, 0, none, 0, 0, 0, 0, rfl, fun h => absurd h (Nat.lt_irrefl _), noInts w, fun h => absurd h (Nat.lt_irrefl _), noInts w⟩
structure Backs (l : Lay) (x g : Mat) : Prop where
 goes : Goes l x
 mat : g.fault = 0
 rows : g.rows = x.rows
 cols : g.cols = l.wide x.cols
 small : l.kind = 1 → x.rows ≤ 12
theorem cf_reluB (vs : Array Value) (W : World) : (callFunc 90 vs).run Try.prog W = .ok (.enter 90 vs) W := by kernel_rfl
theorem cf_shiftB (vs : Array Value) (W : World) : (callFunc 101 vs).run Try.prog W = .ok (.enter 101 vs) W := by kernel_rfl
theorem reluBack_any (p q : Nat) (r c r' c' : Int) (a a' : Option Addr) (n n' k0 k1 b o b' o' : Nat) (xs gs : List Int) (w : World)
  (hp : Box w p [.int .i64 r, .int .i64 c, .slice a n k0] 25) (hq : Box w q [.int .i64 r', .int .i64 c', .slice a' n' k1] 25) (hx : IntsAt w a n k0 b o xs) (hy : IntsAt w a' n' k1 b' o' gs) (i : Nat) (hi : i < n) (hi' : i < n') (hi2 : i ≤ 1000000) :
  Calls Try.prog 90 #[.int .i64 i, .pointer (some ⟨p, 0, none⟩), .pointer (some ⟨q, 0, none⟩)] w fun e w' => e = .returned (.int .i64 (if 0 < ix xs i then ix gs i else 0)) ∧ ∃ n, w' = w.drewN n := by
 have p2 := hp.cell 2
 have q2 := hq.cell 2
 obtain rfl := hx.ptr (by omega)
 obtain rfl := hy.ptr (by omega)
 have ca := hx.cell _ hi
 have cb := hy.cell _ hi'
 by_cases h : 0 < ix xs i
 ·rw [if_pos h]
  go_enter Try.func90, Try.ntmps90
  go_wp2
  go_ret
  exact ⟨rfl, 0, rfl⟩
 ·rw [if_neg h]
  go_enter Try.func90, Try.ntmps90
  go_wp2
  go_ret
  exact ⟨rfl, 0, rfl⟩
theorem shiftBack_any (p : Nat) (r c : Int) (a : Option Addr) (n k0 b o : Nat) (xs : List Int) (w : World)
  (hp : Box w p [.int .i64 r, .int .i64 c, .slice a n k0] 25) (hx : IntsAt w a n k0 b o xs) (i : Nat) (hi : i < n) (hi2 : i ≤ 1000000) :
  Calls Try.prog 101 #[.int .i64 i, .pointer (some ⟨p, 0, none⟩)] w fun e w' => e = .returned (.int .i64 (ix xs i)) ∧ ∃ n, w' = w.drewN n := by
 have p2 := hp.cell 2
 obtain rfl := hx.ptr (by omega)
 have ca := hx.cell _ hi
 go_enter Try.func101, Try.ntmps101
 go_wp2
 go_ret
 exact ⟨rfl, 0, rfl⟩
theorem same_len {x g : Mat} (hx : x.fault = 0) (hg : g.fault = 0) (h1 : g.rows = x.rows) (h2 : g.cols = x.cols) : g.cells.length = x.cells.length ∧ x.cells.length ≤ 288 := by
 obtain ⟨R, K, e1, e2, hR, hK, hl, _⟩ := matFault_ok hx
 obtain ⟨R', K', e3, e4, _, _, hl', _⟩ := matFault_ok hg
 obtain rfl : R = R' := by omega
 obtain rfl : K = K' := by omega
 exact ⟨by omega, by have := Nat.mul_le_mul hR hK; omega⟩
theorem back_2 (W B x g : Mat) (a0 ag aw ab : Option Addr) (n0 k0 b0 o0 ng kg bg og nw kw nb kb : Nat) (w : World) (x0 : IntsAt w a0 n0 k0 b0 o0 x.cells) (xg : IntsAt w ag ng kg bg og g.cells) (hg : Backs ⟨2, W, B⟩ x g) :
  Calls Try.prog 87 #[.agg #[], .agg #[.int .i64 2, .int .i64 W.rows, .int .i64 W.cols, .slice aw nw kw, .int .i64 B.rows, .int .i64 B.cols, .slice ab nb kb], .agg #[.int .i64 x.rows, .int .i64 x.cols, .slice a0 n0 k0], .agg #[.int .i64 g.rows, .int .i64 g.cols, .slice ag ng kg]] w fun e w' =>
   ∃ v d, e = .returned (.tuple #[v, d]) ∧ MatNew w.heap.size w' v (Lay.back ⟨2, W, B⟩ x g) ∧ GrdNew w.heap.size w' d (Lay.grad ⟨2, W, B⟩ x g) ∧ Below w.heap.size w w' := by
 have hcol : g.cols = x.cols := by rw [hg.cols]; exact if_neg (by simp)
 obtain ⟨hgl, hx288⟩ := same_len hg.goes.mat hg.mat hg.rows hcol
 have hn0 := x0.len
 have hng := xg.len
 have hbk : Lay.back ⟨2, W, B⟩ x g = ⟨x.rows, x.cols, upto (fun k => if 0 < ix x.cells k then ix g.cells k else 0) n0⟩ := by
  unfold Lay.back
  rw [if_neg (by simp), if_pos rfl, hn0]
 have hgr : Lay.grad ⟨2, W, B⟩ x g = Grd.none := by
  unfold Lay.grad
  rw [if_neg (by simp), if_pos rfl]
 rw [hbk, hgr]
 have hnn : ng = n0 := by omega
 have hn288 : n0 ≤ 288 := by omega
 clear hbk hgr hcol hgl hx288 hn0 hng hg
 subst hnn
 go_enter Try.func87, Try.ntmps87
 go_wp2_with fail
 refine (each_any x.rows x.cols a0 ng k0 (by omega) 90 #[.pointer (some ⟨w.heap.size + 1 + 1, 0, none⟩), .pointer (some ⟨w.heap.size + 1 + 1 + 1, 0, none⟩)] (fun k => if 0 < ix x.cells k then ix g.cells k else 0) _ cf_reluB ?_).mono ?_
 ·intro i hi U hU
  exact reluBack_any _ _ _ _ _ _ _ _ _ _ _ _ _ _ _ _ x.cells g.cells U (((((Box.new' _ (w.heap.size + 1 + 1) _ _ (by simp)).alloc _).alloc _).alloc _).keep hU) ((((Box.new' _ (w.heap.size + 1 + 1 + 1) _ _ (by simp)).alloc _).alloc _).keep hU) ((x0.alloc _ |>.alloc _ |>.alloc _ |>.alloc _ |>.alloc _ |>.alloc _).keep hU) ((xg.alloc _ |>.alloc _ |>.alloc _ |>.alloc _ |>.alloc _ |>.alloc _).keep hU) i hi hi (by omega)
 ·rintro e w1 ⟨b1, rfl, hbb, hi1, hb1⟩
  have B4 := ((Box.new' _ (w.heap.size + 1 + 1 + 1 + 1) [.int .i64 0, .int .i64 0, .slice none 0 0] 25 (by simp)).alloc _).keep hb1
  have B4c := B4.cell
  have B4f := B4.thawed
  have B4z := B4.lt
  have B4k := lt_add B4z
  have B5 := (Box.new' _ (w.heap.size + 1 + 1 + 1 + 1 + 1) [.int .i64 0, .int .i64 0, .slice none 0 0, .int .i64 0, .int .i64 0, .slice none 0 0] 67 (by simp)).keep hb1
  have B5c := B5.cell
  have B5f := B5.thawed
  have B5z := B5.lt
  have B5k := lt_add B5z
  simp at hbb
  go_wp2
  refine bodyPost_ret (v := .tuple #[.agg #[.int .i64 x.rows, .int .i64 x.cols, .slice (some ⟨b1, 0, none⟩) ng ng], .agg #[.int .i64 0, .int .i64 0, .slice none 0 0, .int .i64 0, .int .i64 0, .slice none 0 0]]) ?_ rfl ⟨_, _, rfl, ?_, ?_, ?_⟩
  ·simp [results, Try.results87, go_sem, B4c, B5c]
  ·exact MatNew.mk (b := b1) (off := 0) (fun _ => by omega) hi1.k
  ·exact noGrd _ _
  ·exact (Below.x1 hb1)
end Go.Proofs.Ytgknjikjjklaiaa
end
section
set_option linter.unusedVariables false
set_option linter.unusedSimpArgs false
set_option linter.unusedSectionVars false
set_option maxRecDepth 100000
namespace Gal
open Go Go.RowKit Go.ChangeShapes Go.WideShapes Go.Deep
def Form.lay : Form Lay := (Form.int.and (Form.mat.and Form.mat)).as fun x => ⟨x.1, x.2.1, x.2.2⟩
def Form.grd : Form Grd := (Form.mat.and Form.mat).as fun x => ⟨x.1, x.2⟩
end Gal
namespace Go.Proofs.Ytgknjikjjklaiaa
open Go.RowKit Gal Go.ChangeShapes Go.WideShapes
theorem lay_reads {w : World} {F : Nat → Prop} {cs : List Value} {l : Lay} (h : Form.lay.reads w F cs l) :
  ∃ a n cap b o a' n' cap' b' o', cs = [.int .i64 l.kind, .int .i64 l.W.rows, .int .i64 l.W.cols, .slice a n cap, .int .i64 l.B.rows, .int .i64 l.B.cols, .slice a' n' cap'] ∧ (0 < n → F b) ∧ IntsAt w a n cap b o l.W.cells ∧ (0 < n' → F b') ∧ IntsAt w a' n' cap' b' o' l.B.cells := by
 obtain ⟨⟨kd, W, B⟩, ⟨c, d, rfl, rfl, c1, d1, rfl, ⟨a, n, cap, b, o, rfl, hF, x0⟩, ⟨a', n', cap', b', o', rfl, hF', x1⟩⟩, rfl⟩ := h
 exact ⟨a, n, cap, b, o, a', n', cap', b', o', rfl, hF, x0, hF', x1⟩
theorem grd_reads {w : World} {F : Nat → Prop} {cs : List Value} {d : Grd} (h : Form.grd.reads w F cs d) :
  ∃ a n cap b o a' n' cap' b' o', cs = [.int .i64 d.W.rows, .int .i64 d.W.cols, .slice a n cap, .int .i64 d.B.rows, .int .i64 d.B.cols, .slice a' n' cap'] ∧ (0 < n → F b) ∧ IntsAt w a n cap b o d.W.cells ∧ (0 < n' → F b') ∧ IntsAt w a' n' cap' b' o' d.B.cells := by
 obtain ⟨⟨W, B⟩, ⟨c1, d1, rfl, ⟨a, n, cap, b, o, rfl, hF, x0⟩, ⟨a', n', cap', b', o', rfl, hF', x1⟩⟩, rfl⟩ := h
 exact ⟨a, n, cap, b, o, a', n', cap', b', o', rfl, hF, x0, hF', x1⟩
theorem reads_grd {w : World} {F : Nat → Prop} {d : Grd} {a a' : Option Addr} {n n' cap cap' b b' o o' : Nat} (hF : 0 < n → F b) (x0 : IntsAt w a n cap b o d.W.cells) (hF' : 0 < n' → F b') (x1 : IntsAt w a' n' cap' b' o' d.B.cells) :
  Form.grd.reads w F [.int .i64 d.W.rows, .int .i64 d.W.cols, .slice a n cap, .int .i64 d.B.rows, .int .i64 d.B.cols, .slice a' n' cap'] d :=
 ⟨(d.W, d.B), ⟨_, _, rfl, ⟨a, n, cap, b, o, rfl, hF, x0⟩, ⟨a', n', cap', b', o', rfl, hF', x1⟩⟩, rfl⟩
theorem lay_cells {w : World} {F : Nat → Prop} {a : Option Addr} {n k b o : Nat} {ls : List Lay} {i : Nat} (h : RowAt Form.lay w F a n k b o ls) (hi : i < n) :
  ∃ a1 n1 k1 b1 o1 a2 n2 k2 b2 o2, w.cell? ⟨b, o + i * 7, none⟩ = some (.int .i64 (lx ls i).kind) ∧ w.cell? ⟨b, o + i * 7 + 1, none⟩ = some (.int .i64 (lx ls i).W.rows) ∧ w.cell? ⟨b, o + i * 7 + 2, none⟩ = some (.int .i64 (lx ls i).W.cols) ∧ w.cell? ⟨b, o + i * 7 + 3, none⟩ = some (.slice a1 n1 k1) ∧
   w.cell? ⟨b, o + i * 7 + 4, none⟩ = some (.int .i64 (lx ls i).B.rows) ∧ w.cell? ⟨b, o + i * 7 + 5, none⟩ = some (.int .i64 (lx ls i).B.cols) ∧ w.cell? ⟨b, o + i * 7 + 6, none⟩ = some (.slice a2 n2 k2) ∧ IntsAt w a1 n1 k1 b1 o1 (lx ls i).W.cells ∧ IntsAt w a2 n2 k2 b2 o2 (lx ls i).B.cells := by
 obtain ⟨cs, hr, hc⟩ := h.cell i _ (lx_get (by rw [h.len]; exact hi))
 obtain ⟨a1, n1, k1, b1, o1, a2, n2, k2, b2, o2, rfl, _, x1, _, x2⟩ := lay_reads hr
 exact ⟨a1, n1, k1, b1, o1, a2, n2, k2, b2, o2, hc 0 (by decide), hc 1 (by decide), hc 2 (by decide), hc 3 (by decide), hc 4 (by decide), hc 5 (by decide), hc 6 (by decide), x1, x2⟩
theorem grd_cells {w : World} {F : Nat → Prop} {a : Option Addr} {n k b o : Nat} {ds : List Grd} {i : Nat} {d : Grd} (h : RowAt Form.grd w F a n k b o ds) (hd : ds[i]? = some d) :
  ∃ a1 n1 k1 b1 o1 a2 n2 k2 b2 o2, w.cell? ⟨b, o + i * 6, none⟩ = some (.int .i64 d.W.rows) ∧ w.cell? ⟨b, o + i * 6 + 1, none⟩ = some (.int .i64 d.W.cols) ∧ w.cell? ⟨b, o + i * 6 + 2, none⟩ = some (.slice a1 n1 k1) ∧
   w.cell? ⟨b, o + i * 6 + 3, none⟩ = some (.int .i64 d.B.rows) ∧ w.cell? ⟨b, o + i * 6 + 4, none⟩ = some (.int .i64 d.B.cols) ∧ w.cell? ⟨b, o + i * 6 + 5, none⟩ = some (.slice a2 n2 k2) ∧ IntsAt w a1 n1 k1 b1 o1 d.W.cells ∧ IntsAt w a2 n2 k2 b2 o2 d.B.cells := by
 obtain ⟨cs, hr, hc⟩ := h.cell i d hd
 obtain ⟨a1, n1, k1, b1, o1, a2, n2, k2, b2, o2, rfl, _, x1, _, x2⟩ := grd_reads hr
 exact ⟨a1, n1, k1, b1, o1, a2, n2, k2, b2, o2, hc 0 (by decide), hc 1 (by decide), hc 2 (by decide), hc 3 (by decide), hc 4 (by decide), hc 5 (by decide), x1, x2⟩
theorem opens_lay : Opens Try.prog Form.lay 65 :=
 (Opens.three (f := Form.int) (g := Form.mat) (k := Form.mat) Try.underlying65 opens_int opens_mat opens_mat (by kernel_rfl) (by kernel_rfl) (by kernel_rfl) (by kernel_rfl)).as _
end Go.Proofs.Ytgknjikjjklaiaa
end
section
set_option linter.unusedVariables false
set_option linter.unusedSimpArgs false
namespace Go.Proofs.Ytgknjikjjklaiaa
open Go.RowKit Gal
theorem matrices_sameM (ma : Mat) (va vb : Value) (w : World) (ha : MatAt w va ma) (hb : MatAt w vb ma) :
  Calls Try.prog 21 #[va, vb] w fun e w' => e = .returned (.bool true) ∧ Below w.heap.size w w' :=
 (matrices_any ma ma va vb w ha hb).mono fun _ _ ⟨h, hb⟩ => ⟨by rw [h, decide_eq_true rfl], hb⟩
end Go.Proofs.Ytgknjikjjklaiaa
end
