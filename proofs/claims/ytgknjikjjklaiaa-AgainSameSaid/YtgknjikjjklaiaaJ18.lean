/- Texts joined: Lay8. -/
import Derived.Test.YtgknjikjjklaiaaJ16
import Derived.Test.YtgknjikjjklaiaaJ04
section
set_option linter.unusedVariables false
set_option linter.unusedSimpArgs false
namespace Go.Proofs.Ytgknjikjjklaiaa
open Go.RowKit Gal
set_option maxRecDepth 100000
set_option maxHeartbeats 2000000
theorem back_3 (W B x g : Mat) (a0 ag aw ab : Option Addr) (n0 k0 b0 o0 ng kg bg og nw kw bw ow nb kb : Nat) (w : World) (x0 : IntsAt w a0 n0 k0 b0 o0 x.cells) (xg : IntsAt w ag ng kg bg og g.cells) (xw : IntsAt w aw nw kw bw ow W.cells) (hg : Backs ⟨3, W, B⟩ x g) :
  Calls Try.prog 93 #[.agg #[], .agg #[.int .i64 3, .int .i64 W.rows, .int .i64 W.cols, .slice aw nw kw, .int .i64 B.rows, .int .i64 B.cols, .slice ab nb kb], .agg #[.int .i64 x.rows, .int .i64 x.cols, .slice a0 n0 k0], .agg #[.int .i64 g.rows, .int .i64 g.cols, .slice ag ng kg]] w fun e w' =>
   ∃ v d, e = .returned (.tuple #[v, d]) ∧ MatNew w.heap.size w' v (Lay.back ⟨3, W, B⟩ x g) ∧ GrdNew w.heap.size w' d (Lay.grad ⟨3, W, B⟩ x g) ∧ Below w.heap.size w w' := by
 have hcol : g.cols = x.cols := by rw [hg.cols]; exact if_neg (by simp)
 obtain ⟨hgl, hx288⟩ := same_len hg.goes.mat hg.mat hg.rows hcol
 have hn0 := x0.len
 have hng := xg.len
 have hgo : Goes ⟨3, W, B⟩ g := ⟨hg.goes.lay, hg.mat, takes_3 W B g.cols⟩
 have hbk : Lay.back ⟨3, W, B⟩ x g = Lay.go ⟨3, W, B⟩ g := by simp [Lay.back, Lay.go]
 have hgr : Lay.grad ⟨3, W, B⟩ x g = ⟨⟨1, 1, [dotTo x.cells g.cells n0]⟩, Mat.none⟩ := by simp [Lay.grad, hn0]
 rw [hbk, hgr]
 have hnn : ng = n0 := by omega
 have hn288 : n0 ≤ 288 := by omega
 have HGO := Lib.hid hgo
 clear hbk hgr hcol hgl hx288 hn0 hng hg hgo
 subst hnn
 go_enter Try.func93, Try.ntmps93
 go_wp2
 go_loopw [10, 15] (fun s i wr => ∃ k : Nat, k ≤ ng ∧ i = .int .i64 k ∧ s = .int .i64 (dotTo x.cells g.cells k) ∧ Below w.heap.size w wr ∧
   Box wr (w.heap.size + 1) [.int .i64 3, .int .i64 W.rows, .int .i64 W.cols, .slice aw nw kw, .int .i64 B.rows, .int .i64 B.cols, .slice ab nb kb] 65 ∧
   Box wr (w.heap.size + 1 + 1) [.int .i64 x.rows, .int .i64 x.cols, .slice a0 ng k0] 25 ∧ Box wr (w.heap.size + 1 + 1 + 1) [.int .i64 g.rows, .int .i64 g.cols, .slice ag ng kg] 25 ∧
   Box wr (w.heap.size + 1 + 1 + 1 + 1) [.int .i64 0, .int .i64 0, .slice none 0 0] 25 ∧ Box wr (w.heap.size + 1 + 1 + 1 + 1 + 1) [.int .i64 0, .int .i64 0, .slice none 0 0, .int .i64 0, .int .i64 0, .slice none 0 0] 67) (fun _ i _ => ng - (intOf i).toNat)
 case atStart => exact ⟨0, Nat.zero_le _, rfl, rfl, Below.x0, Box.x0, Box.x0, Box.x0, Box.x0, Box.x0⟩
 case round =>
  obtain ⟨k, hk, rfl, rfl, hbr, B1, B2, B3, B4, B5⟩ := hrel
  have B1c := B1.cell
  have B2c := B2.cell
  have B3c := B3.cell
  have hz := B5.lt
  by_cases hlt : k < ng
  ·obtain rfl := x0.ptr (by omega)
   obtain rfl := xg.ptr (by omega)
   have ca := (x0.keep hbr).cell _ hlt
   have cb := (xg.keep hbr).cell _ hlt
   go_wp2
   go_quiet ((first | (go_at_call 32; first | exact quiet0 (mul_any _ _) | exact quiet1 (mul_any _ _)) | (go_at_call 30; first | exact quiet0 (add_any _ _) | exact quiet1 (add_any _ _))))
   go_wp2
   go_roundw
   case rel => exact ⟨k + 1, by omega, by go_num, rfl, (Below.y0 hbr), B1.drewN _, B2.drewN _, B3.drewN _, B4.drewN _, B5.drewN _⟩
   case measure => simp [intOf]; omega
  ·obtain rfl : k = ng := by omega
   have xg' := xg.keep hbr
   have xw' := xw.keep hbr
   go_wp2_with fail
   refine (run_3 W B g _ _ _ _ _ _ _ _ _ _ _ _ _ _ xg' xw' HGO.out).mono ?_
   rintro e w1 ⟨v1, rfl, ⟨a1, n1, k1, b1, o1, rfl, hn1, x1⟩, hb1⟩
   have C4 := B4.keep hb1
   have C5 := B5.keep hb1
   have C4c := (C4.alloc (.cells #[.int .i64 (dotTo x.cells g.cells k)] 3)).cell
   have C5c := (C5.alloc (.cells #[.int .i64 (dotTo x.cells g.cells k)] 3)).cell
   have C4f := (C4.alloc (.cells #[.int .i64 (dotTo x.cells g.cells k)] 3)).thawed
   have C5f := (C5.alloc (.cells #[.int .i64 (dotTo x.cells g.cells k)] 3)).thawed
   have hs1 := hb1.size
   have xs1 : IntsAt (w1.alloc (.cells #[.int .i64 (dotTo x.cells g.cells k)] 3)) (some ⟨w1.heap.size, 0, none⟩) 1 1 w1.heap.size 0 [dotTo x.cells g.cells k] := ints_box (xs := [dotTo x.cells g.cells k]) (Box.new w1 _ _) (by unfold maxLen; simp)
   have XS1 := Lib.hid xs1
   clear xs1
   go_wp2
   refine bodyPost_ret (v := .tuple #[.agg #[.int .i64 (Lay.go ⟨3, W, B⟩ g).rows, .int .i64 (Lay.go ⟨3, W, B⟩ g).cols, .slice a1 n1 k1], .agg #[.int .i64 1, .int .i64 1, .slice (some ⟨w1.heap.size, 0, none⟩) 1 1, .int .i64 0, .int .i64 0, .slice none 0 0]]) (by simp [results, Try.results93, go_sem, C4c, C5c]) rfl ⟨_, _, rfl, MatNew.mk (b := b1) (off := o1) (fun h => by have := hn1 h; omega) ?_, ⟨_, _, _, w1.heap.size, 0, _, _, _, 0, 0, rfl, fun _ => by omega, ?_, fun h => absurd h (Nat.lt_irrefl _), noInts _⟩, (Below.y1 hb1 hbr)⟩
   ·exact x1.k
   ·exact (by repeat (first | (with_reducible first | exact XS1.out | refine IntsAt.alloc ?_ _ | refine IntsAt.drewN ?_ _ | refine IntsAt.drew ?_ | (refine IntsAt.set ?_ ?_ _; rotate_left 1; (intro h0; first | (dsimp only; omega) | omega | (simp; omega) | simp))) | exact XS1.out))
theorem back_4 (W B x g : Mat) (a0 ag aw ab : Option Addr) (n0 k0 ng kg bg og nw kw nb kb : Nat) (w : World) (xg : IntsAt w ag ng kg bg og g.cells) (hg : Backs ⟨4, W, B⟩ x g) :
  Calls Try.prog 97 #[.agg #[], .agg #[.int .i64 4, .int .i64 W.rows, .int .i64 W.cols, .slice aw nw kw, .int .i64 B.rows, .int .i64 B.cols, .slice ab nb kb], .agg #[.int .i64 x.rows, .int .i64 x.cols, .slice a0 n0 k0], .agg #[.int .i64 g.rows, .int .i64 g.cols, .slice ag ng kg]] w fun e w' =>
   ∃ v d, e = .returned (.tuple #[v, d]) ∧ MatNew w.heap.size w' v (Lay.back ⟨4, W, B⟩ x g) ∧ GrdNew w.heap.size w' d (Lay.grad ⟨4, W, B⟩ x g) ∧ Below w.heap.size w w' := by
 have hng := xg.len
 have hbk : Lay.back ⟨4, W, B⟩ x g = ⟨g.rows, g.cols, upto (ix g.cells) ng⟩ := by simp [Lay.back, hng]
 have hgr : Lay.grad ⟨4, W, B⟩ x g = ⟨Mat.none, matSums g⟩ := by simp [Lay.grad]
 have hn288 : ng ≤ 288 := by obtain ⟨_, _, h⟩ := fault_bd hg.mat; omega
 have HF := Lib.hid hg.mat
 rw [hbk, hgr]
 clear hbk hgr hng hg
 go_enter Try.func97, Try.ntmps97
 go_wp2_with fail
 refine (matSums_any g _ _ (MatAt.mk (xg.alloc _ |>.alloc _ |>.alloc _ |>.alloc _ |>.alloc _ |>.alloc _))).mono ?_
 rw [orNone_ok HF.out, errV_nil HF.out]
 rintro e w1 ⟨v1, rfl, ⟨a1, n1, k1, b1, o1, rfl, hn1, x1⟩, hb1⟩
 have B3 := ((show Box _ (w.heap.size + 1 + 1 + 1) [.int .i64 g.rows, .int .i64 g.cols, .slice ag ng kg] 25 from Box.x0)).keep hb1
 have B3c := B3.cell
 have B3f := B3.thawed
 have B3z := B3.lt
 have B3k := lt_add B3z
 have B4 := (show Box _ (w.heap.size + 1 + 1 + 1 + 1) [.int .i64 0, .int .i64 0, .slice none 0 0] 25 from Box.x0).keep hb1
 have B4c := B4.cell
 have B4f := B4.thawed
 have B4z := B4.lt
 have B4k := lt_add B4z
 have B5 := (show Box _ (w.heap.size + 1 + 1 + 1 + 1 + 1) [.int .i64 0, .int .i64 0, .slice none 0 0, .int .i64 0, .int .i64 0, .slice none 0 0] 67 from Box.x0).keep hb1
 have B5c := B5.cell
 have B5f := B5.thawed
 have B5z := B5.lt
 have B5k := lt_add B5z
 have xg1 := (xg.alloc _ |>.alloc _ |>.alloc _ |>.alloc _ |>.alloc _ |>.alloc _).keep hb1
 go_wp2_with fail
 have B10 : Box (w1.alloc (.cells #[.int .i64 (matSums g).rows, .int .i64 (matSums g).cols, .slice a1 n1 k1] 25)) w1.heap.size [.int .i64 (matSums g).rows, .int .i64 (matSums g).cols, .slice a1 n1 k1] 25 := Box.new _ _ _
 have D5 := (((((((B5.alloc (.cells #[.int .i64 (matSums g).rows, .int .i64 (matSums g).cols, .slice a1 n1 k1] 25)).drew).set 0 (.int .i64 0)).set 1 (.int .i64 0)).set 2 (.slice none 0 0)).set 3 (.int .i64 (matSums g).rows)).set 4 (.int .i64 (matSums g).cols)).set 5 (.slice a1 n1 k1)
 go_region_held3 (fun w' => w'.cell? ⟨w.heap.size + 1 + 1 + 1, 0, none⟩ = some (.int .i64 g.rows) ∧ w'.cell? ⟨w.heap.size + 1 + 1 + 1, 1, none⟩ = some (.int .i64 g.cols) ∧ w'.cell? ⟨w.heap.size + 1 + 1 + 1, 2, none⟩ = some (.slice ag ng kg) ∧ w'.cell? ⟨w1.heap.size, 0, none⟩ = some (.int .i64 (matSums g).rows) ∧ w'.cell? ⟨w1.heap.size, 1, none⟩ = some (.int .i64 (matSums g).cols) ∧ w'.cell? ⟨w1.heap.size, 2, none⟩ = some (.slice a1 n1 k1)) (exact cells33 (t := 25) (u := 25) (by first | exact B3.k1 hb2 | exact B3.k) (by first | exact B10.k1 hb2 | exact B10.k)) ((go_at_call 84; go_must (refine (each_any g.rows g.cols ag ng kg (by omega) 101 #[.pointer (some ⟨w.heap.size + 1 + 1 + 1, 0, none⟩)] (ix g.cells) _ cf_shiftB ?_).mono ?_); go_must (intro i hi U hU); go_must (exact shiftBack_any (w.heap.size + 1 + 1 + 1) g.rows g.cols ag ng kg bg og g.cells U (Box.keep B3.k hU) (IntsAt.keep xg1.k hU) i hi (by omega)); go_must (rintro e w2 ⟨b2, rfl, hbb, hi2, hb2⟩); go_must (have C4 : Box w2 (w.heap.size + 1 + 1 + 1 + 1) [.int .i64 0, .int .i64 0, .slice none 0 0] 25 := Box.keep B4.k hb2); go_must (first | (have C5 : Box w2 (w.heap.size + 1 + 1 + 1 + 1 + 1) [.int .i64 0, .int .i64 0, .slice none 0 0, .int .i64 0, .int .i64 0, .slice none 0 0] 67 := Box.keep B5.k hb2) | (have C5 := Box.keep D5 hb2)); go_must (have C4c := C4.cell; have C4f := C4.thawed; have C4z := C4.lt; have C5c := C5.cell; have C5f := C5.thawed; have C5z := C5.lt)))
 all_goals (
  go_wp2
  have hs2 := hb2.size
  simp at hs2 hbb
  have hn1' : 0 < n1 → w.heap.size + 1 + 1 + 1 + 1 + 1 < b1 := fun h => by have := hn1 h; simp at this; omega
  refine bodyPost_ret (v := .tuple #[.agg #[.int .i64 g.rows, .int .i64 g.cols, .slice (some ⟨b2, 0, none⟩) ng ng], .agg #[.int .i64 0, .int .i64 0, .slice none 0 0, .int .i64 (matSums g).rows, .int .i64 (matSums g).cols, .slice a1 n1 k1]]) ?_ rfl ⟨_, _, rfl, ?_, ?_, ?_⟩
  ·simp [results, Try.results97, go_sem, C4c, C5c]
  ·exact MatNew.mk (b := b2) (off := 0) (fun _ => by omega) hi2.k
  ·exact ⟨_, _, _, 0, 0, a1, n1, k1, b1, o1, rfl, fun h => absurd h (Nat.lt_irrefl _), noInts _, fun h => by have := hn1' h; omega, (by repeat (first | (with_reducible first | exact x1 | refine IntsAt.alloc ?_ _ | refine IntsAt.drewN ?_ _ | refine IntsAt.drew ?_ | (refine IntsAt.set ?_ ?_ _; rotate_left 1; (intro h0; have hq0 := hn1' h0; first | (dsimp only; omega) | omega | (simp; omega) | simp)) | refine IntsAt.keep ?_ hb2) | exact x1))⟩
  ·exact (Below.x2 hb2 hb1))
end Go.Proofs.Ytgknjikjjklaiaa
end
