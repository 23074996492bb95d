/- Texts joined: Lay8, Lay9. -/
import Derived.Test.YtchngeagnlngaaaJ18
import Derived.Test.YtchngeagnlngaaaJ03
import Derived.Test.YtchngeagnlngaaaJ02
section
set_option linter.unusedVariables false
set_option linter.unusedSimpArgs false
namespace Go.Proofs.Ytchngeagnlngaaa
open Go.RowKit Gal
set_option maxRecDepth 100000
set_option maxHeartbeats 2000000
theorem back_3 (W B x g : Mat) (a0 ag aw ab : Option Addr) (n0 k0 b0 o0 ng kg bg og nw kw bw ow nb kb : Nat) (w : World) (x0 : IntsAt w a0 n0 k0 b0 o0 x.cells) (xg : IntsAt w ag ng kg bg og g.cells) (xw : IntsAt w aw nw kw bw ow W.cells) (hg : Backs ⟨3, W, B⟩ x g) :
  Calls Try.prog 154 #[.agg #[], .agg #[.int .i64 3, .int .i64 W.rows, .int .i64 W.cols, .slice aw nw kw, .int .i64 B.rows, .int .i64 B.cols, .slice ab nb kb], .agg #[.int .i64 x.rows, .int .i64 x.cols, .slice a0 n0 k0], .agg #[.int .i64 g.rows, .int .i64 g.cols, .slice ag ng kg]] w fun e w' =>
   ∃ v d, e = .returned (.tuple #[v, d]) ∧ MatNew w.heap.size w' v (Lay.back ⟨3, W, B⟩ x g) ∧ GrdNew w.heap.size w' d (Lay.grad ⟨3, W, B⟩ x g) ∧ Below w.heap.size w w' := by
 have hcol : g.cols = x.cols := by rw [hg.cols]; exact if_neg (by simp)
 obtain ⟨hgl, hx288⟩ := same_len hg.goes.mat hg.mat hg.rows hcol
 have hn0 := x0.len
 have hng := xg.len
 have hgo : Goes ⟨3, W, B⟩ g := ⟨hg.goes.lay, hg.mat, takes_3 W B g.cols⟩
 have hbk : Lay.back ⟨3, W, B⟩ x g = Lay.go ⟨3, W, B⟩ g := by simp [Lay.back, Lay.go]
 have hgr : Lay.grad ⟨3, W, B⟩ x g = ⟨⟨1, 1, [dotTo x.cells g.cells n0]⟩, Mat.none⟩ := by simp [Lay.grad, hn0]
 rw [hbk, hgr]
 have hnn : ng = n0 := by omega
 have hn288 : n0 ≤ 288 := by omega
 have HGO := Lib.hid hgo
 clear hbk hgr hcol hgl hx288 hn0 hng hg hgo
 subst hnn
 go_enter Try.func154, Try.ntmps154
 go_wp2
 go_loopw [10, 15] (fun s i wr => ∃ k : Nat, k ≤ ng ∧ i = .int .i64 k ∧ s = .int .i64 (dotTo x.cells g.cells k) ∧ Below w.heap.size w wr ∧
   Box wr (w.heap.size + 1) [.int .i64 3, .int .i64 W.rows, .int .i64 W.cols, .slice aw nw kw, .int .i64 B.rows, .int .i64 B.cols, .slice ab nb kb] 69 ∧
   Box wr (w.heap.size + 1 + 1) [.int .i64 x.rows, .int .i64 x.cols, .slice a0 ng k0] 28 ∧ Box wr (w.heap.size + 1 + 1 + 1) [.int .i64 g.rows, .int .i64 g.cols, .slice ag ng kg] 28 ∧
   Box wr (w.heap.size + 1 + 1 + 1 + 1) [.int .i64 0, .int .i64 0, .slice none 0 0] 28 ∧ Box wr (w.heap.size + 1 + 1 + 1 + 1 + 1) [.int .i64 0, .int .i64 0, .slice none 0 0, .int .i64 0, .int .i64 0, .slice none 0 0] 93) (fun _ i _ => ng - (intOf i).toNat)
 case atStart => exact ⟨0, Nat.zero_le _, rfl, rfl, Below.x0, Box.x0, Box.x0, Box.x0, Box.x0, Box.x0⟩
 case round =>
  obtain ⟨k, hk, rfl, rfl, hbr, B1, B2, B3, B4, B5⟩ := hrel
  have B1c := B1.cell
  have B2c := B2.cell
  have B3c := B3.cell
  have hz := B5.lt
  by_cases hlt : k < ng
  ·obtain rfl := x0.ptr (by omega)
   obtain rfl := xg.ptr (by omega)
   have ca := (x0.keep hbr).cell _ hlt
   have cb := (xg.keep hbr).cell _ hlt
   go_wp2
   go_quiet ((first | (go_at_call 66; first | exact quiet0 (mul_any _ _) | exact quiet1 (mul_any _ _)) | (go_at_call 31; first | exact quiet0 (add_any _ _) | exact quiet1 (add_any _ _))))
   go_wp2
   go_roundw
   case rel => exact ⟨k + 1, by omega, by go_num, rfl, (Below.y0 hbr), B1.drewN _, B2.drewN _, B3.drewN _, B4.drewN _, B5.drewN _⟩
   case measure => simp [intOf]; omega
  ·obtain rfl : k = ng := by omega
   have xg' := xg.keep hbr
   have xw' := xw.keep hbr
   go_wp2_with fail
   refine (run_3 W B g _ _ _ _ _ _ _ _ _ _ _ _ _ _ xg' xw' HGO.out).mono ?_
   rintro e w1 ⟨v1, rfl, ⟨a1, n1, k1, b1, o1, rfl, hn1, x1⟩, hb1⟩
   have C4 := B4.keep hb1
   have C5 := B5.keep hb1
   have C4c := (C4.alloc (.cells #[.int .i64 (dotTo x.cells g.cells k)] 3)).cell
   have C5c := (C5.alloc (.cells #[.int .i64 (dotTo x.cells g.cells k)] 3)).cell
   have C4f := (C4.alloc (.cells #[.int .i64 (dotTo x.cells g.cells k)] 3)).thawed
   have C5f := (C5.alloc (.cells #[.int .i64 (dotTo x.cells g.cells k)] 3)).thawed
   have hs1 := hb1.size
   have xs1 : IntsAt (w1.alloc (.cells #[.int .i64 (dotTo x.cells g.cells k)] 3)) (some ⟨w1.heap.size, 0, none⟩) 1 1 w1.heap.size 0 [dotTo x.cells g.cells k] := ints_box (xs := [dotTo x.cells g.cells k]) (Box.new w1 _ _) (by unfold maxLen; simp)
   have XS1 := Lib.hid xs1
   clear xs1
   go_wp2
   refine bodyPost_ret (v := .tuple #[.agg #[.int .i64 (Lay.go ⟨3, W, B⟩ g).rows, .int .i64 (Lay.go ⟨3, W, B⟩ g).cols, .slice a1 n1 k1], .agg #[.int .i64 1, .int .i64 1, .slice (some ⟨w1.heap.size, 0, none⟩) 1 1, .int .i64 0, .int .i64 0, .slice none 0 0]]) (by simp [results, Try.results154, go_sem, C4c, C5c]) rfl ⟨_, _, rfl, MatNew.mk (b := b1) (off := o1) (fun h => by have := hn1 h; omega) ?_, ⟨_, _, _, w1.heap.size, 0, _, _, _, 0, 0, rfl, fun _ => by omega, ?_, fun h => absurd h (Nat.lt_irrefl _), noInts _⟩, (Below.y1 hb1 hbr)⟩
   ·exact x1.k
   ·exact (by repeat (first | (with_reducible first | exact XS1.out | refine IntsAt.alloc ?_ _ | refine IntsAt.drewN ?_ _ | refine IntsAt.drew ?_ | (refine IntsAt.set ?_ ?_ _; rotate_left 1; (intro h0; first | (dsimp only; omega) | omega | (simp; omega) | simp))) | exact XS1.out))
theorem back_4 (W B x g : Mat) (a0 ag aw ab : Option Addr) (n0 k0 ng kg bg og nw kw nb kb : Nat) (w : World) (xg : IntsAt w ag ng kg bg og g.cells) (hg : Backs ⟨4, W, B⟩ x g) :
  Calls Try.prog 158 #[.agg #[], .agg #[.int .i64 4, .int .i64 W.rows, .int .i64 W.cols, .slice aw nw kw, .int .i64 B.rows, .int .i64 B.cols, .slice ab nb kb], .agg #[.int .i64 x.rows, .int .i64 x.cols, .slice a0 n0 k0], .agg #[.int .i64 g.rows, .int .i64 g.cols, .slice ag ng kg]] w fun e w' =>
   ∃ v d, e = .returned (.tuple #[v, d]) ∧ MatNew w.heap.size w' v (Lay.back ⟨4, W, B⟩ x g) ∧ GrdNew w.heap.size w' d (Lay.grad ⟨4, W, B⟩ x g) ∧ Below w.heap.size w w' := by
 have hng := xg.len
 have hbk : Lay.back ⟨4, W, B⟩ x g = ⟨g.rows, g.cols, upto (ix g.cells) ng⟩ := by simp [Lay.back, hng]
 have hgr : Lay.grad ⟨4, W, B⟩ x g = ⟨Mat.none, matSums g⟩ := by simp [Lay.grad]
 have hn288 : ng ≤ 288 := by obtain ⟨_, _, h⟩ := fault_bd hg.mat; omega
 have HF := Lib.hid hg.mat
 rw [hbk, hgr]
 clear hbk hgr hng hg
 go_enter Try.func158, Try.ntmps158
 go_wp2_with fail
 refine (matSums_any g _ _ (MatAt.mk (xg.alloc _ |>.alloc _ |>.alloc _ |>.alloc _ |>.alloc _ |>.alloc _))).mono ?_
 rw [orNone_ok HF.out, errV_nil HF.out]
 rintro e w1 ⟨v1, rfl, ⟨a1, n1, k1, b1, o1, rfl, hn1, x1⟩, hb1⟩
 have B3 := ((show Box _ (w.heap.size + 1 + 1 + 1) [.int .i64 g.rows, .int .i64 g.cols, .slice ag ng kg] 28 from Box.x0)).keep hb1
 have B3c := B3.cell
 have B3f := B3.thawed
 have B3z := B3.lt
 have B3k := lt_add B3z
 have B4 := (show Box _ (w.heap.size + 1 + 1 + 1 + 1) [.int .i64 0, .int .i64 0, .slice none 0 0] 28 from Box.x0).keep hb1
 have B4c := B4.cell
 have B4f := B4.thawed
 have B4z := B4.lt
 have B4k := lt_add B4z
 have B5 := (show Box _ (w.heap.size + 1 + 1 + 1 + 1 + 1) [.int .i64 0, .int .i64 0, .slice none 0 0, .int .i64 0, .int .i64 0, .slice none 0 0] 93 from Box.x0).keep hb1
 have B5c := B5.cell
 have B5f := B5.thawed
 have B5z := B5.lt
 have B5k := lt_add B5z
 have xg1 := (xg.alloc _ |>.alloc _ |>.alloc _ |>.alloc _ |>.alloc _ |>.alloc _).keep hb1
 go_wp2_with fail
 have B10 : Box (w1.alloc (.cells #[.int .i64 (matSums g).rows, .int .i64 (matSums g).cols, .slice a1 n1 k1] 28)) w1.heap.size [.int .i64 (matSums g).rows, .int .i64 (matSums g).cols, .slice a1 n1 k1] 28 := Box.new _ _ _
 have D5 := (((((((B5.alloc (.cells #[.int .i64 (matSums g).rows, .int .i64 (matSums g).cols, .slice a1 n1 k1] 28)).drew).set 0 (.int .i64 0)).set 1 (.int .i64 0)).set 2 (.slice none 0 0)).set 3 (.int .i64 (matSums g).rows)).set 4 (.int .i64 (matSums g).cols)).set 5 (.slice a1 n1 k1)
 go_region_held3 (fun w' => w'.cell? ⟨w.heap.size + 1 + 1 + 1, 0, none⟩ = some (.int .i64 g.rows) ∧ w'.cell? ⟨w.heap.size + 1 + 1 + 1, 1, none⟩ = some (.int .i64 g.cols) ∧ w'.cell? ⟨w.heap.size + 1 + 1 + 1, 2, none⟩ = some (.slice ag ng kg) ∧ w'.cell? ⟨w1.heap.size, 0, none⟩ = some (.int .i64 (matSums g).rows) ∧ w'.cell? ⟨w1.heap.size, 1, none⟩ = some (.int .i64 (matSums g).cols) ∧ w'.cell? ⟨w1.heap.size, 2, none⟩ = some (.slice a1 n1 k1)) (exact cells33 (t := 28) (u := 28) (by first | exact B3.k1 hb2 | exact B3.k) (by first | exact B10.k1 hb2 | exact B10.k)) ((go_at_call 145; go_must (refine (each_any g.rows g.cols ag ng kg (by omega) 162 #[.pointer (some ⟨w.heap.size + 1 + 1 + 1, 0, none⟩)] (ix g.cells) _ cf_shiftB ?_).mono ?_); go_must (intro i hi U hU); go_must (exact shiftBack_any (w.heap.size + 1 + 1 + 1) g.rows g.cols ag ng kg bg og g.cells U (Box.keep B3.k hU) (IntsAt.keep xg1.k hU) i hi (by omega)); go_must (rintro e w2 ⟨b2, rfl, hbb, hi2, hb2⟩); go_must (have C4 : Box w2 (w.heap.size + 1 + 1 + 1 + 1) [.int .i64 0, .int .i64 0, .slice none 0 0] 28 := Box.keep B4.k hb2); go_must (first | (have C5 : Box w2 (w.heap.size + 1 + 1 + 1 + 1 + 1) [.int .i64 0, .int .i64 0, .slice none 0 0, .int .i64 0, .int .i64 0, .slice none 0 0] 93 := Box.keep B5.k hb2) | (have C5 := Box.keep D5 hb2)); go_must (have C4c := C4.cell; have C4f := C4.thawed; have C4z := C4.lt; have C5c := C5.cell; have C5f := C5.thawed; have C5z := C5.lt)))
 all_goals (
  go_wp2
  have hs2 := hb2.size
  simp at hs2 hbb
  have hn1' : 0 < n1 → w.heap.size + 1 + 1 + 1 + 1 + 1 < b1 := fun h => by have := hn1 h; simp at this; omega
  refine bodyPost_ret (v := .tuple #[.agg #[.int .i64 g.rows, .int .i64 g.cols, .slice (some ⟨b2, 0, none⟩) ng ng], .agg #[.int .i64 0, .int .i64 0, .slice none 0 0, .int .i64 (matSums g).rows, .int .i64 (matSums g).cols, .slice a1 n1 k1]]) ?_ rfl ⟨_, _, rfl, ?_, ?_, ?_⟩
  ·simp [results, Try.results158, go_sem, C4c, C5c]
  ·exact MatNew.mk (b := b2) (off := 0) (fun _ => by omega) hi2.k
  ·exact ⟨_, _, _, 0, 0, a1, n1, k1, b1, o1, rfl, fun h => absurd h (Nat.lt_irrefl _), noInts _, fun h => by have := hn1' h; omega, (by repeat (first | (with_reducible first | exact x1 | refine IntsAt.alloc ?_ _ | refine IntsAt.drewN ?_ _ | refine IntsAt.drew ?_ | (refine IntsAt.set ?_ ?_ _; rotate_left 1; (intro h0; have hq0 := hn1' h0; first | (dsimp only; omega) | omega | (simp; omega) | simp)) | refine IntsAt.keep ?_ hb2) | exact x1))⟩
  ·exact (Below.x2 hb2 hb1))
end Go.Proofs.Ytchngeagnlngaaa
end
section
set_option linter.unusedVariables false
set_option linter.unusedSimpArgs false
namespace Go.Proofs.Ytchngeagnlngaaa
open Go.RowKit Gal
set_option maxRecDepth 100000
set_option maxHeartbeats 2000000
theorem turn_fault' {m : Mat} (h : m.fault = 0) (hr : m.rows ≤ 12) : (matTurn m).fault = 0 := by
 obtain ⟨R, K, xs, rfl, hR, hK, hl, he⟩ := fault_form' h
 exact turn_fault (by dsimp only at hr; omega) hK hl he
theorem back_1 (W B x g : Mat) (a0 ag aw ab : Option Addr) (n0 k0 b0 o0 ng kg bg og nw kw bw ow nb kb : Nat) (w : World) (x0 : IntsAt w a0 n0 k0 b0 o0 x.cells) (xg : IntsAt w ag ng kg bg og g.cells) (xw : IntsAt w aw nw kw bw ow W.cells) (hg : Backs ⟨1, W, B⟩ x g) :
  Calls Try.prog 134 #[.agg #[], .agg #[.int .i64 1, .int .i64 W.rows, .int .i64 W.cols, .slice aw nw kw, .int .i64 B.rows, .int .i64 B.cols, .slice ab nb kb], .agg #[.int .i64 x.rows, .int .i64 x.cols, .slice a0 n0 k0], .agg #[.int .i64 g.rows, .int .i64 g.cols, .slice ag ng kg]] w fun e w' =>
   ∃ v d, e = .returned (.tuple #[v, d]) ∧ MatNew w.heap.size w' v (Lay.back ⟨1, W, B⟩ x g) ∧ GrdNew w.heap.size w' d (Lay.grad ⟨1, W, B⟩ x g) ∧ Below w.heap.size w w' := by
 have hbk : Lay.back ⟨1, W, B⟩ x g = matMul g (matTurn W) := by simp [Lay.back]
 have hgr : Lay.grad ⟨1, W, B⟩ x g = ⟨matMul (matTurn x) g, matSums g⟩ := by simp [Lay.grad]
 obtain ⟨_, _, fw, fb, ft⟩ := Lay.fault_ok hg.goes.lay
 have hW12 : W.rows ≤ 12 := by unfold Lay.fits at ft; dsimp only at ft; omega
 have hx12 : x.rows ≤ 12 := hg.small rfl
 have hc : g.cols = W.cols := by rw [hg.cols]; exact if_pos rfl
 have HTW := Lib.hid (turnFault_zero fw hW12)
 have HTX := Lib.hid (turnFault_zero hg.goes.mat hx12)
 have HM1 : Hid (mulFault g (matTurn W) = 0) := Lib.hid (mulFault_zero hg.mat (turn_fault' fw hW12) hc)
 have HM2 : Hid (mulFault (matTurn x) g = 0) := Lib.hid (mulFault_zero (turn_fault' hg.goes.mat hx12) hg.mat hg.rows.symm)
 have HF := Lib.hid hg.mat
 rw [hbk, hgr]
 clear hbk hgr fw fb ft hW12 hx12 hc hg
 go_enter Try.func134, Try.ntmps134
 go_wp2_with fail
 refine (matTurn_new W _ _ (MatAt.mk (xw.alloc _ |>.alloc _ |>.alloc _ |>.alloc _ |>.alloc _ |>.alloc _)) HTW.out).mono ?_
 rintro e w1 ⟨v1, rfl, ⟨a1, n1, k1, b1, o1, rfl, hn1, x1⟩, hb1⟩
 have B2 := ((show Box _ (w.heap.size + 1 + 1) [.int .i64 x.rows, .int .i64 x.cols, .slice a0 n0 k0] 28 from Box.x0)).keep hb1
 have B2c := B2.cell
 have B2f := B2.thawed
 have B2z := B2.lt
 have B2k := lt_add B2z
 have B3 := ((show Box _ (w.heap.size + 1 + 1 + 1) [.int .i64 g.rows, .int .i64 g.cols, .slice ag ng kg] 28 from Box.x0)).keep hb1
 have B3c := B3.cell
 have B3f := B3.thawed
 have B3z := B3.lt
 have B3k := lt_add B3z
 have B4 := ((show Box _ (w.heap.size + 1 + 1 + 1 + 1) [.int .i64 0, .int .i64 0, .slice none 0 0] 28 from Box.x0)).keep hb1
 have B4c := B4.cell
 have B4f := B4.thawed
 have B4z := B4.lt
 have B4k := lt_add B4z
 have B5 := ((show Box _ (w.heap.size + 1 + 1 + 1 + 1 + 1) [.int .i64 0, .int .i64 0, .slice none 0 0, .int .i64 0, .int .i64 0, .slice none 0 0] 93 from Box.x0)).keep hb1
 have B5c := B5.cell
 have B5f := B5.thawed
 have B5z := B5.lt
 have B5k := lt_add B5z
 have hkw1 : Below w.heap.size w w1 := (Below.x1 hb1)
 replace x0 := x0.keep hkw1
 replace xg := xg.keep hkw1
 have hsw1 := hkw1.size
 have hz1 : w.heap.size + 1 + 1 + 1 + 1 + 1 < w1.heap.size := B5z
 go_wp2_with fail
 refine (matTurn_new x _ _ (MatAt.mk (x0.alloc _)) HTX.out).mono ?_
 rintro e w2 ⟨v2, rfl, ⟨a2, n2, k2, b2, o2, rfl, hn2, x2⟩, hb2⟩
 have Q1 := (Box.new w1 [.int .i64 (matTurn W).rows, .int .i64 (matTurn W).cols, .slice a1 n1 k1] 28).keep hb2
 have Q1c := Q1.cell
 have Q1f := Q1.thawed
 have Q1z := Q1.lt
 have Q1k := lt_add Q1z
 have hkw2 : Below w1.heap.size w1 w2 := (Below.x1 hb2)
 replace B3 := B3.keep hkw2
 replace B3c := B3.cell
 replace B3f := B3.thawed
 replace B3z := B3.lt
 replace B3k := lt_add B3z
 replace B4 := B4.keep hkw2
 replace B4c := B4.cell
 replace B4f := B4.thawed
 replace B4z := B4.lt
 replace B4k := lt_add B4z
 replace B5 := B5.keep hkw2
 replace B5c := B5.cell
 replace B5f := B5.thawed
 replace B5z := B5.lt
 replace B5k := lt_add B5z
 replace xg := xg.keep hkw2
 replace x1 := x1.keep hkw2
 have hsw2 := hkw2.size
 go_wp2_with fail
 refine (matMul_new g (matTurn W) _ _ _ (MatAt.mk (xg.alloc _)) (MatAt.mk (x1.alloc _)) HM1.out).mono ?_
 rintro e w3 ⟨v3, rfl, ⟨a3, n3, k3, b3, o3, rfl, hn3, x3⟩, hb3⟩
 have Q2 := (Box.new w2 [.int .i64 (matTurn x).rows, .int .i64 (matTurn x).cols, .slice a2 n2 k2] 28).keep hb3
 have Q2c := Q2.cell
 have Q2f := Q2.thawed
 have Q2z := Q2.lt
 have Q2k := lt_add Q2z
 have hkw3 : Below w2.heap.size w2 w3 := (Below.x1 hb3)
 replace B3 := B3.keep hkw3
 replace B3c := B3.cell
 replace B3f := B3.thawed
 replace B3z := B3.lt
 replace B3k := lt_add B3z
 replace B4 := B4.keep hkw3
 replace B4c := B4.cell
 replace B4f := B4.thawed
 replace B4z := B4.lt
 replace B4k := lt_add B4z
 replace B5 := B5.keep hkw3
 replace B5c := B5.cell
 replace B5f := B5.thawed
 replace B5z := B5.lt
 replace B5k := lt_add B5z
 replace xg := xg.keep hkw3
 replace x2 := x2.keep hkw3
 have hsw3 := hkw3.size
 go_wp2_with fail
 refine (matMul_new (matTurn x) g _ _ _ (MatAt.mk (x2.alloc _)) (MatAt.mk (xg.alloc _)) HM2.out).mono ?_
 rintro e w4 ⟨v4, rfl, ⟨a4, n4, k4, b4, o4, rfl, hn4, x4⟩, hb4⟩
 have Q3 := (Box.new w3 [.int .i64 (matMul g (matTurn W)).rows, .int .i64 (matMul g (matTurn W)).cols, .slice a3 n3 k3] 28).keep hb4
 have Q3c := Q3.cell
 have Q3f := Q3.thawed
 have Q3z := Q3.lt
 have Q3k := lt_add Q3z
 have hkw4 : Below w3.heap.size w3 w4 := (Below.x1 hb4)
 replace B3 := B3.keep hkw4
 replace B3c := B3.cell
 replace B3f := B3.thawed
 replace B3z := B3.lt
 replace B3k := lt_add B3z
 replace B4 := B4.keep hkw4
 replace B4c := B4.cell
 replace B4f := B4.thawed
 replace B4z := B4.lt
 replace B4k := lt_add B4z
 replace B5 := B5.keep hkw4
 replace B5c := B5.cell
 replace B5f := B5.thawed
 replace B5z := B5.lt
 replace B5k := lt_add B5z
 replace xg := xg.keep hkw4
 replace x3 := x3.keep hkw4
 have hsw4 := hkw4.size
 go_wp2_with fail
 refine (matSums_any g _ _ (MatAt.mk (xg.alloc _))).mono ?_
 rw [orNone_ok HF.out, errV_nil HF.out]
 rintro e w5 ⟨v5, rfl, ⟨a5, n5, k5, b5, o5, rfl, hn5, x5⟩, hb5⟩
 have Q4 := (Box.new w4 [.int .i64 (matMul (matTurn x) g).rows, .int .i64 (matMul (matTurn x) g).cols, .slice a4 n4 k4] 28).keep hb5
 have Q4c := Q4.cell
 have Q4f := Q4.thawed
 have Q4z := Q4.lt
 have Q4k := lt_add Q4z
 have hkw5 : Below w4.heap.size w4 w5 := (Below.x1 hb5)
 replace B4 := B4.keep hkw5
 replace B4c := B4.cell
 replace B4f := B4.thawed
 replace B4z := B4.lt
 replace B4k := lt_add B4z
 replace B5 := B5.keep hkw5
 replace B5c := B5.cell
 replace B5f := B5.thawed
 replace B5z := B5.lt
 replace B5k := lt_add B5z
 replace Q3 := Q3.keep hkw5
 replace Q3c := Q3.cell
 replace Q3f := Q3.thawed
 replace Q3z := Q3.lt
 replace Q3k := lt_add Q3z
 replace x3 := x3.keep hkw5
 replace x4 := x4.keep hkw5
 have hsw5 := hkw5.size
 go_wp2_with fail
 have Q5 : Box (w5.alloc (.cells #[.int .i64 (matSums g).rows, .int .i64 (matSums g).cols, .slice a5 n5 k5] 28)) w5.heap.size [.int .i64 (matSums g).rows, .int .i64 (matSums g).cols, .slice a5 n5 k5] 28 := Box.new _ _ _
 have hn3' : 0 < n3 → w.heap.size + 1 + 1 + 1 + 1 + 1 < b3 := fun h => by have := hn3 h; simp at this; omega
 have hn4' : 0 < n4 → w.heap.size + 1 + 1 + 1 + 1 + 1 < b4 := fun h => by have := hn4 h; simp at this; omega
 have hn5' : 0 < n5 → w.heap.size + 1 + 1 + 1 + 1 + 1 < b5 := fun h => by have := hn5 h; simp at this; omega
 go_region_held3 (fun w' => w'.cell? ⟨w3.heap.size, 0, none⟩ = some (.int .i64 (matMul g (matTurn W)).rows) ∧ w'.cell? ⟨w3.heap.size, 1, none⟩ = some (.int .i64 (matMul g (matTurn W)).cols) ∧ w'.cell? ⟨w3.heap.size, 2, none⟩ = some (.slice a3 n3 k3) ∧ w'.cell? ⟨w4.heap.size, 0, none⟩ = some (.int .i64 (matMul (matTurn x) g).rows) ∧ w'.cell? ⟨w4.heap.size, 1, none⟩ = some (.int .i64 (matMul (matTurn x) g).cols) ∧ w'.cell? ⟨w4.heap.size, 2, none⟩ = some (.slice a4 n4 k4) ∧ w'.cell? ⟨w5.heap.size, 0, none⟩ = some (.int .i64 (matSums g).rows) ∧ w'.cell? ⟨w5.heap.size, 1, none⟩ = some (.int .i64 (matSums g).cols) ∧ w'.cell? ⟨w5.heap.size, 2, none⟩ = some (.slice a5 n5 k5)) (exact cells333 (t := 28) (u := 28) (s := 28) Q3.k Q4.k (by repeat (first | (with_reducible first | exact Q5 | exact (Box.new' _ (w5.heap.size) _ _ (by simp [World.setCell])) | refine Box.alloc ?_ _ | refine Box.drewN ?_ _ | refine Box.drew ?_ | refine Box.fx ?_ _) | exact Q5))) (fail)
 all_goals (
  go_wp2
  refine bodyPost_ret (v := .tuple #[.agg #[.int .i64 (matMul g (matTurn W)).rows, .int .i64 (matMul g (matTurn W)).cols, .slice a3 n3 k3], .agg #[.int .i64 (matMul (matTurn x) g).rows, .int .i64 (matMul (matTurn x) g).cols, .slice a4 n4 k4, .int .i64 (matSums g).rows, .int .i64 (matSums g).cols, .slice a5 n5 k5]]) ?_ rfl ⟨_, _, rfl, ?_, ?_, ?_⟩
  ·simp [results, Try.results134, go_sem, B4c, B5c, B4z, B5z]
  ·exact MatNew.mk (b := b3) (off := o3) (fun h => by have := hn3' h; omega) (by repeat (first | (with_reducible first | exact x3 | refine IntsAt.alloc ?_ _ | refine IntsAt.drewN ?_ _ | refine IntsAt.drew ?_ | (refine IntsAt.set ?_ ?_ _; rotate_left 1; (intro h0; have hq0 := hn3' h0; first | (dsimp only; omega) | omega | (simp; omega) | simp))) | exact x3))
  ·exact ⟨a4, n4, k4, b4, o4, a5, n5, k5, b5, o5, rfl, fun h => by have := hn4' h; omega, (by repeat (first | (with_reducible first | exact x4 | refine IntsAt.alloc ?_ _ | refine IntsAt.drewN ?_ _ | refine IntsAt.drew ?_ | (refine IntsAt.set ?_ ?_ _; rotate_left 1; (intro h0; have hq0 := hn4' h0; first | (dsimp only; omega) | omega | (simp; omega) | simp))) | exact x4)), fun h => by have := hn5' h; omega, (by repeat (first | (with_reducible first | exact x5 | refine IntsAt.alloc ?_ _ | refine IntsAt.drewN ?_ _ | refine IntsAt.drew ?_ | (refine IntsAt.set ?_ ?_ _; rotate_left 1; (intro h0; have hq0 := hn5' h0; first | (dsimp only; omega) | omega | (simp; omega) | simp))) | exact x5))⟩
  ·exact (by repeat (first | (with_reducible first | exact Below.refl _ _ | refine Below.al ?_ _ | refine Below.drN ?_ _ | refine Below.drew ?_ | refine Below.sx ?_ _ | refine Below.go ?_ hb5 | refine Below.go ?_ hb4 | refine Below.go ?_ hb3 | refine Below.go ?_ hb2 | refine Below.go ?_ hb1) | exact Below.refl _ _)))
end Go.Proofs.Ytchngeagnlngaaa
end
