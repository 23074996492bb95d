/- Texts joined: Lay6. -/
import Derived.Test.YtchngeagnlngaaaJ16
import Derived.Test.YtchngeagnlngaaaJ13
import Derived.Test.YtchngeagnlngaaaJ10
section
set_option linter.unusedVariables false
set_option linter.unusedSimpArgs false
namespace Go.Proofs.Ytchngeagnlngaaa
open Go.RowKit Gal
set_option maxRecDepth 100000
set_option maxHeartbeats 2000000
theorem m_run_1 (w : World) : (Go.method 335 201 (.agg #[]) "galley/layer.run").run Try.prog w = .ok (136, .agg #[]) w := by kernel_rfl
theorem n_run_1 (w : World) : (Go.nilAhead 335 201 (.agg #[]) "galley/layer.run").run Try.prog w = .ok (some false) w := by kernel_rfl
theorem m_run_2 (w : World) : (Go.method 335 204 (.agg #[]) "galley/layer.run").run Try.prog w = .ok (150, .agg #[]) w := by kernel_rfl
theorem n_run_2 (w : World) : (Go.nilAhead 335 204 (.agg #[]) "galley/layer.run").run Try.prog w = .ok (some false) w := by kernel_rfl
theorem m_run_3 (w : World) : (Go.method 335 205 (.agg #[]) "galley/layer.run").run Try.prog w = .ok (156, .agg #[]) w := by kernel_rfl
theorem n_run_3 (w : World) : (Go.nilAhead 335 205 (.agg #[]) "galley/layer.run").run Try.prog w = .ok (some false) w := by kernel_rfl
theorem m_run_4 (w : World) : (Go.method 335 206 (.agg #[]) "galley/layer.run").run Try.prog w = .ok (160, .agg #[]) w := by kernel_rfl
theorem n_run_4 (w : World) : (Go.nilAhead 335 206 (.agg #[]) "galley/layer.run").run Try.prog w = .ok (some false) w := by kernel_rfl
theorem layGo_bad (l : Lay) (m : Mat) (v u : Value) (w : World) (h : LayAt w v l) (hu : MatAt w u m) (hf : l.goFault m ≠ 0) :
  Calls Try.prog 34 #[v, u] w fun e w' => ∃ x, e = .returned (.tuple #[x, errV (l.goFault m)]) ∧ MatNew w.heap.size w' x (orNone (l.goFault m) (l.go m)) ∧ Below w.heap.size w w' := by
 obtain ⟨a, n, k, b, o, a', n', k', b', o', rfl, x0, x1⟩ := h
 obtain ⟨a2, n2, k2, b2, o2, rfl, x2⟩ := hu
 have hE : errV (l.goFault m) = .iface 62 (.int .i64 (l.goFault m)) := errV_err hf
 rw [orNone_bad hf]
 have HE := Lib.hid hE
 clear hf hE
 go_enter Try.func34, Try.ntmps34
 go_wp2_with fail
 refine (layEnter_any l m _ _ _ ⟨_, _, _, _, _, _, _, _, _, _, rfl, x0.alloc _ |>.alloc _ |>.alloc _, x1.alloc _ |>.alloc _ |>.alloc _⟩ (MatAt.mk (x2.alloc _ |>.alloc _ |>.alloc _))).mono ?_
 rw [HE.out]
 rintro e w1 ⟨rfl, hb1⟩
 have B2 := (Box.new' _ (w.heap.size + 1 + 1) [.int .i64 0, .int .i64 0, .slice none 0 0] 28 (by simp)).keep hb1
 have B2c := B2.cell
 have B2f := B2.thawed
 have B2z := B2.lt
 have B2k := lt_add B2z
 go_wp2
 exact bodyPost_ret (v := .tuple #[.agg #[.int .i64 0, .int .i64 0, .slice none 0 0], .iface 62 (.int .i64 (l.goFault m))]) (by simp [results, Try.results34, go_sem, B2c]) rfl ⟨_, by rw [HE.out], none_new _ _, (Below.x1 hb1)⟩
theorem layGo_1 (W B m : Mat) (v u : Value) (w : World) (h : LayAt w v ⟨1, W, B⟩) (hu : MatAt w u m) (hf : Lay.goFault ⟨1, W, B⟩ m = 0) :
  Calls Try.prog 34 #[v, u] w fun e w' => ∃ x, e = .returned (.tuple #[x, .nilIface]) ∧ MatNew w.heap.size w' x (Lay.go ⟨1, W, B⟩ m) ∧ Below w.heap.size w w' := by
 obtain ⟨a, n, k, b, o, a', n', k', b', o', rfl, x0, x1⟩ := h
 obtain ⟨a2, n2, k2, b2, o2, rfl, x2⟩ := hu
 dsimp only at x0 x1
 obtain ⟨g1, g2, g3⟩ := Lay.goFault_ok hf
 have hgs : Goes ⟨1, W, B⟩ m := ⟨g1, g2, g3⟩
 have hE : errV (Lay.goFault ⟨1, W, B⟩ m) = .nilIface := errV_nil hf
 have HE := Lib.hid hE
 have hm : ∀ w, (Go.method 335 201 (.agg #[]) "galley/layer.run").run Try.prog w = .ok (136, .agg #[]) w := m_run_1
 have hn : ∀ w, (Go.nilAhead 335 201 (.agg #[]) "galley/layer.run").run Try.prog w = .ok (some false) w := n_run_1
 have HG := Lib.hid hgs
 clear hf hE g1 g2 g3 hgs
 go_enter Try.func34, Try.ntmps34
 go_wp2_with fail
 refine (layEnter_any ⟨1, W, B⟩ m _ _ _ ⟨_, _, _, _, _, _, _, _, _, _, rfl, x0.alloc _ |>.alloc _ |>.alloc _, x1.alloc _ |>.alloc _ |>.alloc _⟩ (MatAt.mk (x2.alloc _ |>.alloc _ |>.alloc _))).mono ?_
 rw [HE.out]
 rintro e w1 ⟨rfl, hb1⟩
 have B0 := ((Box.new w [.int .i64 1, .int .i64 W.rows, .int .i64 W.cols, .slice a n k, .int .i64 B.rows, .int .i64 B.cols, .slice a' n' k'] 69).alloc _ |>.alloc _).keep hb1
 have B0c := B0.cell
 have B0f := B0.thawed
 have B0z := B0.lt
 have B0k := lt_add B0z
 have B1 := ((Box.new' _ (w.heap.size + 1) [.int .i64 m.rows, .int .i64 m.cols, .slice a2 n2 k2] 28 (by simp)).alloc _).keep hb1
 have B1c := B1.cell
 have B1f := B1.thawed
 have B1z := B1.lt
 have B1k := lt_add B1z
 have B2 := (Box.new' _ (w.heap.size + 1 + 1) [.int .i64 0, .int .i64 0, .slice none 0 0] 28 (by simp)).keep hb1
 have B2c := B2.cell
 have B2f := B2.thawed
 have B2z := B2.lt
 have B2k := lt_add B2z
 have hkw1 : Below w.heap.size w w1 := (Below.x1 hb1)
 replace x0 := x0.keep hkw1
 replace x1 := x1.keep hkw1
 replace x2 := x2.keep hkw1
 have y0 := x0.drewN 1
 have y1 := x1.drewN 1
 have y2 := x2.drewN 1
 have hs1 := hb1.size
 simp at hs1
 go_wp2_with fail
 go_region_held3 (fun w' => w'.cell? ⟨w.heap.size, 0, none⟩ = some (.int .i64 1) ∧ w'.cell? ⟨w.heap.size, 1, none⟩ = some (.int .i64 W.rows) ∧ w'.cell? ⟨w.heap.size, 2, none⟩ = some (.int .i64 W.cols) ∧ w'.cell? ⟨w.heap.size, 3, none⟩ = some (.slice a n k) ∧ w'.cell? ⟨w.heap.size, 4, none⟩ = some (.int .i64 B.rows) ∧ w'.cell? ⟨w.heap.size, 5, none⟩ = some (.int .i64 B.cols) ∧ w'.cell? ⟨w.heap.size, 6, none⟩ = some (.slice a' n' k') ∧ w'.cell? ⟨w.heap.size + 1, 0, none⟩ = some (.int .i64 m.rows) ∧ w'.cell? ⟨w.heap.size + 1, 1, none⟩ = some (.int .i64 m.cols) ∧ w'.cell? ⟨w.heap.size + 1, 2, none⟩ = some (.slice a2 n2 k2)) (first | (exact ⟨B0.cell 0, B0.cell 1, B0.cell 2, B0.cell 3, B0.cell 4, B0.cell 5, B0.cell 6, B1.cell 0, B1.cell 1, B1.cell 2⟩) | (exact ⟨(B0.drew.keep hb2).cell 0, (B0.drew.keep hb2).cell 1, (B0.drew.keep hb2).cell 2, (B0.drew.keep hb2).cell 3, (B0.drew.keep hb2).cell 4, (B0.drew.keep hb2).cell 5, (B0.drew.keep hb2).cell 6, (B1.drew.keep hb2).cell 0, (B1.drew.keep hb2).cell 1, (B1.drew.keep hb2).cell 2⟩) | (exact ⟨D0.cell 0, D0.cell 1, D0.cell 2, D0.cell 3, D0.cell 4, D0.cell 5, D0.cell 6, D1.cell 0, D1.cell 1, D1.cell 2⟩) | (go_keep; done)) (first | (go_at_call 71; go_must (refine (of_1 _).mono ?_); go_must (rintro e w' ⟨rfl, rfl⟩)) | (go_at_call 136; go_must (refine (run_1 W B m _ _ _ _ _ _ _ _ _ _ _ _ _ _ _ _ y2 y0 y1 HG.out).mono ?_); go_must (rintro e w2 ⟨v2, rfl, ⟨a3, n3, k3, b3, o3, rfl, hn3, x3⟩, hb2⟩); go_must (have C2 := B2.drew.keep hb2); go_must (have D0 := ((((B0.drew.keep hb2).far (a := ⟨w.heap.size + 1 + 1, 0, none⟩) (by dsimp only; omega) (.int .i64 (Lay.go ⟨1, W, B⟩ m).rows)).far (a := ⟨w.heap.size + 1 + 1, 1, none⟩) (by dsimp only; omega) (.int .i64 (Lay.go ⟨1, W, B⟩ m).cols)).far (a := ⟨w.heap.size + 1 + 1, 2, none⟩) (by dsimp only; omega) (.slice a3 n3 k3))); go_must (have D1 := ((((B1.drew.keep hb2).far (a := ⟨w.heap.size + 1 + 1, 0, none⟩) (by dsimp only; omega) (.int .i64 (Lay.go ⟨1, W, B⟩ m).rows)).far (a := ⟨w.heap.size + 1 + 1, 1, none⟩) (by dsimp only; omega) (.int .i64 (Lay.go ⟨1, W, B⟩ m).cols)).far (a := ⟨w.heap.size + 1 + 1, 2, none⟩) (by dsimp only; omega) (.slice a3 n3 k3))); have C2c := C2.cell; have C2f := C2.thawed))
 all_goals (
  go_wp2
  exact bodyPost_ret (v := .tuple #[.agg #[.int .i64 (Lay.go ⟨1, W, B⟩ m).rows, .int .i64 (Lay.go ⟨1, W, B⟩ m).cols, .slice a3 n3 k3], .nilIface]) (by simp [results, Try.results34, go_sem, C2c]) rfl ⟨_, rfl, MatNew.mk (fun h => by have := hn3 h; simp at this; omega) (x3.set3 (fun h => by have := hn3 h; simp at this; omega) _ _ _), (Below.x2 hb2 hb1)⟩)
theorem layGo_2 (W B m : Mat) (v u : Value) (w : World) (h : LayAt w v ⟨2, W, B⟩) (hu : MatAt w u m) (hf : Lay.goFault ⟨2, W, B⟩ m = 0) :
  Calls Try.prog 34 #[v, u] w fun e w' => ∃ x, e = .returned (.tuple #[x, .nilIface]) ∧ MatNew w.heap.size w' x (Lay.go ⟨2, W, B⟩ m) ∧ Below w.heap.size w w' := by
 obtain ⟨a, n, k, b, o, a', n', k', b', o', rfl, x0, x1⟩ := h
 obtain ⟨a2, n2, k2, b2, o2, rfl, x2⟩ := hu
 dsimp only at x0 x1
 obtain ⟨g1, g2, g3⟩ := Lay.goFault_ok hf
 have hgs : Goes ⟨2, W, B⟩ m := ⟨g1, g2, g3⟩
 have hE : errV (Lay.goFault ⟨2, W, B⟩ m) = .nilIface := errV_nil hf
 have HE := Lib.hid hE
 have hm : ∀ w, (Go.method 335 204 (.agg #[]) "galley/layer.run").run Try.prog w = .ok (150, .agg #[]) w := m_run_2
 have hn : ∀ w, (Go.nilAhead 335 204 (.agg #[]) "galley/layer.run").run Try.prog w = .ok (some false) w := n_run_2
 have HG := Lib.hid hgs
 clear hf hE g1 g2 g3 hgs
 go_enter Try.func34, Try.ntmps34
 go_wp2_with fail
 refine (layEnter_any ⟨2, W, B⟩ m _ _ _ ⟨_, _, _, _, _, _, _, _, _, _, rfl, x0.alloc _ |>.alloc _ |>.alloc _, x1.alloc _ |>.alloc _ |>.alloc _⟩ (MatAt.mk (x2.alloc _ |>.alloc _ |>.alloc _))).mono ?_
 rw [HE.out]
 rintro e w1 ⟨rfl, hb1⟩
 have B0 := ((Box.new w [.int .i64 2, .int .i64 W.rows, .int .i64 W.cols, .slice a n k, .int .i64 B.rows, .int .i64 B.cols, .slice a' n' k'] 69).alloc _ |>.alloc _).keep hb1
 have B0c := B0.cell
 have B0f := B0.thawed
 have B0z := B0.lt
 have B0k := lt_add B0z
 have B1 := ((Box.new' _ (w.heap.size + 1) [.int .i64 m.rows, .int .i64 m.cols, .slice a2 n2 k2] 28 (by simp)).alloc _).keep hb1
 have B1c := B1.cell
 have B1f := B1.thawed
 have B1z := B1.lt
 have B1k := lt_add B1z
 have B2 := (Box.new' _ (w.heap.size + 1 + 1) [.int .i64 0, .int .i64 0, .slice none 0 0] 28 (by simp)).keep hb1
 have B2c := B2.cell
 have B2f := B2.thawed
 have B2z := B2.lt
 have B2k := lt_add B2z
 have hkw1 : Below w.heap.size w w1 := (Below.x1 hb1)
 replace x0 := x0.keep hkw1
 replace x1 := x1.keep hkw1
 replace x2 := x2.keep hkw1
 have y0 := x0.drewN 1
 have y1 := x1.drewN 1
 have y2 := x2.drewN 1
 have hs1 := hb1.size
 simp at hs1
 go_wp2_with fail
 go_region_held3 (fun w' => w'.cell? ⟨w.heap.size, 0, none⟩ = some (.int .i64 2) ∧ w'.cell? ⟨w.heap.size, 1, none⟩ = some (.int .i64 W.rows) ∧ w'.cell? ⟨w.heap.size, 2, none⟩ = some (.int .i64 W.cols) ∧ w'.cell? ⟨w.heap.size, 3, none⟩ = some (.slice a n k) ∧ w'.cell? ⟨w.heap.size, 4, none⟩ = some (.int .i64 B.rows) ∧ w'.cell? ⟨w.heap.size, 5, none⟩ = some (.int .i64 B.cols) ∧ w'.cell? ⟨w.heap.size, 6, none⟩ = some (.slice a' n' k') ∧ w'.cell? ⟨w.heap.size + 1, 0, none⟩ = some (.int .i64 m.rows) ∧ w'.cell? ⟨w.heap.size + 1, 1, none⟩ = some (.int .i64 m.cols) ∧ w'.cell? ⟨w.heap.size + 1, 2, none⟩ = some (.slice a2 n2 k2)) (first | (exact ⟨B0.cell 0, B0.cell 1, B0.cell 2, B0.cell 3, B0.cell 4, B0.cell 5, B0.cell 6, B1.cell 0, B1.cell 1, B1.cell 2⟩) | (exact ⟨(B0.drew.keep hb2).cell 0, (B0.drew.keep hb2).cell 1, (B0.drew.keep hb2).cell 2, (B0.drew.keep hb2).cell 3, (B0.drew.keep hb2).cell 4, (B0.drew.keep hb2).cell 5, (B0.drew.keep hb2).cell 6, (B1.drew.keep hb2).cell 0, (B1.drew.keep hb2).cell 1, (B1.drew.keep hb2).cell 2⟩) | (exact ⟨D0.cell 0, D0.cell 1, D0.cell 2, D0.cell 3, D0.cell 4, D0.cell 5, D0.cell 6, D1.cell 0, D1.cell 1, D1.cell 2⟩) | (go_keep; done)) (first | (go_at_call 71; go_must (refine (of_2 _).mono ?_); go_must (rintro e w' ⟨rfl, rfl⟩)) | (go_at_call 150; go_must (refine (run_2 W B m _ _ _ _ _ _ _ _ _ _ _ _ y2 HG.out).mono ?_); go_must (rintro e w2 ⟨v2, rfl, ⟨a3, n3, k3, b3, o3, rfl, hn3, x3⟩, hb2⟩); go_must (have C2 := B2.drew.keep hb2); go_must (have D0 := ((((B0.drew.keep hb2).far (a := ⟨w.heap.size + 1 + 1, 0, none⟩) (by dsimp only; omega) (.int .i64 (Lay.go ⟨2, W, B⟩ m).rows)).far (a := ⟨w.heap.size + 1 + 1, 1, none⟩) (by dsimp only; omega) (.int .i64 (Lay.go ⟨2, W, B⟩ m).cols)).far (a := ⟨w.heap.size + 1 + 1, 2, none⟩) (by dsimp only; omega) (.slice a3 n3 k3))); go_must (have D1 := ((((B1.drew.keep hb2).far (a := ⟨w.heap.size + 1 + 1, 0, none⟩) (by dsimp only; omega) (.int .i64 (Lay.go ⟨2, W, B⟩ m).rows)).far (a := ⟨w.heap.size + 1 + 1, 1, none⟩) (by dsimp only; omega) (.int .i64 (Lay.go ⟨2, W, B⟩ m).cols)).far (a := ⟨w.heap.size + 1 + 1, 2, none⟩) (by dsimp only; omega) (.slice a3 n3 k3))); have C2c := C2.cell; have C2f := C2.thawed))
 all_goals (
  go_wp2
  exact bodyPost_ret (v := .tuple #[.agg #[.int .i64 (Lay.go ⟨2, W, B⟩ m).rows, .int .i64 (Lay.go ⟨2, W, B⟩ m).cols, .slice a3 n3 k3], .nilIface]) (by simp [results, Try.results34, go_sem, C2c]) rfl ⟨_, rfl, MatNew.mk (fun h => by have := hn3 h; simp at this; omega) (x3.set3 (fun h => by have := hn3 h; simp at this; omega) _ _ _), (Below.x2 hb2 hb1)⟩)
theorem layGo_3 (W B m : Mat) (v u : Value) (w : World) (h : LayAt w v ⟨3, W, B⟩) (hu : MatAt w u m) (hf : Lay.goFault ⟨3, W, B⟩ m = 0) :
  Calls Try.prog 34 #[v, u] w fun e w' => ∃ x, e = .returned (.tuple #[x, .nilIface]) ∧ MatNew w.heap.size w' x (Lay.go ⟨3, W, B⟩ m) ∧ Below w.heap.size w w' := by
 obtain ⟨a, n, k, b, o, a', n', k', b', o', rfl, x0, x1⟩ := h
 obtain ⟨a2, n2, k2, b2, o2, rfl, x2⟩ := hu
 dsimp only at x0 x1
 obtain ⟨g1, g2, g3⟩ := Lay.goFault_ok hf
 have hgs : Goes ⟨3, W, B⟩ m := ⟨g1, g2, g3⟩
 have hE : errV (Lay.goFault ⟨3, W, B⟩ m) = .nilIface := errV_nil hf
 have HE := Lib.hid hE
 have hm : ∀ w, (Go.method 335 205 (.agg #[]) "galley/layer.run").run Try.prog w = .ok (156, .agg #[]) w := m_run_3
 have hn : ∀ w, (Go.nilAhead 335 205 (.agg #[]) "galley/layer.run").run Try.prog w = .ok (some false) w := n_run_3
 have HG := Lib.hid hgs
 clear hf hE g1 g2 g3 hgs
 go_enter Try.func34, Try.ntmps34
 go_wp2_with fail
 refine (layEnter_any ⟨3, W, B⟩ m _ _ _ ⟨_, _, _, _, _, _, _, _, _, _, rfl, x0.alloc _ |>.alloc _ |>.alloc _, x1.alloc _ |>.alloc _ |>.alloc _⟩ (MatAt.mk (x2.alloc _ |>.alloc _ |>.alloc _))).mono ?_
 rw [HE.out]
 rintro e w1 ⟨rfl, hb1⟩
 have B0 := ((Box.new w [.int .i64 3, .int .i64 W.rows, .int .i64 W.cols, .slice a n k, .int .i64 B.rows, .int .i64 B.cols, .slice a' n' k'] 69).alloc _ |>.alloc _).keep hb1
 have B0c := B0.cell
 have B0f := B0.thawed
 have B0z := B0.lt
 have B0k := lt_add B0z
 have B1 := ((Box.new' _ (w.heap.size + 1) [.int .i64 m.rows, .int .i64 m.cols, .slice a2 n2 k2] 28 (by simp)).alloc _).keep hb1
 have B1c := B1.cell
 have B1f := B1.thawed
 have B1z := B1.lt
 have B1k := lt_add B1z
 have B2 := (Box.new' _ (w.heap.size + 1 + 1) [.int .i64 0, .int .i64 0, .slice none 0 0] 28 (by simp)).keep hb1
 have B2c := B2.cell
 have B2f := B2.thawed
 have B2z := B2.lt
 have B2k := lt_add B2z
 have hkw1 : Below w.heap.size w w1 := (Below.x1 hb1)
 replace x0 := x0.keep hkw1
 replace x1 := x1.keep hkw1
 replace x2 := x2.keep hkw1
 have y0 := x0.drewN 1
 have y1 := x1.drewN 1
 have y2 := x2.drewN 1
 have hs1 := hb1.size
 simp at hs1
 go_wp2_with fail
 go_region_held3 (fun w' => w'.cell? ⟨w.heap.size, 0, none⟩ = some (.int .i64 3) ∧ w'.cell? ⟨w.heap.size, 1, none⟩ = some (.int .i64 W.rows) ∧ w'.cell? ⟨w.heap.size, 2, none⟩ = some (.int .i64 W.cols) ∧ w'.cell? ⟨w.heap.size, 3, none⟩ = some (.slice a n k) ∧ w'.cell? ⟨w.heap.size, 4, none⟩ = some (.int .i64 B.rows) ∧ w'.cell? ⟨w.heap.size, 5, none⟩ = some (.int .i64 B.cols) ∧ w'.cell? ⟨w.heap.size, 6, none⟩ = some (.slice a' n' k') ∧ w'.cell? ⟨w.heap.size + 1, 0, none⟩ = some (.int .i64 m.rows) ∧ w'.cell? ⟨w.heap.size + 1, 1, none⟩ = some (.int .i64 m.cols) ∧ w'.cell? ⟨w.heap.size + 1, 2, none⟩ = some (.slice a2 n2 k2)) (first | (exact ⟨B0.cell 0, B0.cell 1, B0.cell 2, B0.cell 3, B0.cell 4, B0.cell 5, B0.cell 6, B1.cell 0, B1.cell 1, B1.cell 2⟩) | (exact ⟨(B0.drew.keep hb2).cell 0, (B0.drew.keep hb2).cell 1, (B0.drew.keep hb2).cell 2, (B0.drew.keep hb2).cell 3, (B0.drew.keep hb2).cell 4, (B0.drew.keep hb2).cell 5, (B0.drew.keep hb2).cell 6, (B1.drew.keep hb2).cell 0, (B1.drew.keep hb2).cell 1, (B1.drew.keep hb2).cell 2⟩) | (exact ⟨D0.cell 0, D0.cell 1, D0.cell 2, D0.cell 3, D0.cell 4, D0.cell 5, D0.cell 6, D1.cell 0, D1.cell 1, D1.cell 2⟩) | (go_keep; done)) (first | (go_at_call 71; go_must (refine (of_3 _).mono ?_); go_must (rintro e w' ⟨rfl, rfl⟩)) | (go_at_call 156; go_must (refine (run_3 W B m _ _ _ _ _ _ _ _ _ _ _ _ _ _ y2 y0 HG.out).mono ?_); go_must (rintro e w2 ⟨v2, rfl, ⟨a3, n3, k3, b3, o3, rfl, hn3, x3⟩, hb2⟩); go_must (have C2 := B2.drew.keep hb2); go_must (have D0 := ((((B0.drew.keep hb2).far (a := ⟨w.heap.size + 1 + 1, 0, none⟩) (by dsimp only; omega) (.int .i64 (Lay.go ⟨3, W, B⟩ m).rows)).far (a := ⟨w.heap.size + 1 + 1, 1, none⟩) (by dsimp only; omega) (.int .i64 (Lay.go ⟨3, W, B⟩ m).cols)).far (a := ⟨w.heap.size + 1 + 1, 2, none⟩) (by dsimp only; omega) (.slice a3 n3 k3))); go_must (have D1 := ((((B1.drew.keep hb2).far (a := ⟨w.heap.size + 1 + 1, 0, none⟩) (by dsimp only; omega) (.int .i64 (Lay.go ⟨3, W, B⟩ m).rows)).far (a := ⟨w.heap.size + 1 + 1, 1, none⟩) (by dsimp only; omega) (.int .i64 (Lay.go ⟨3, W, B⟩ m).cols)).far (a := ⟨w.heap.size + 1 + 1, 2, none⟩) (by dsimp only; omega) (.slice a3 n3 k3))); have C2c := C2.cell; have C2f := C2.thawed))
 all_goals (
  go_wp2
  exact bodyPost_ret (v := .tuple #[.agg #[.int .i64 (Lay.go ⟨3, W, B⟩ m).rows, .int .i64 (Lay.go ⟨3, W, B⟩ m).cols, .slice a3 n3 k3], .nilIface]) (by simp [results, Try.results34, go_sem, C2c]) rfl ⟨_, rfl, MatNew.mk (fun h => by have := hn3 h; simp at this; omega) (x3.set3 (fun h => by have := hn3 h; simp at this; omega) _ _ _), (Below.x2 hb2 hb1)⟩)
theorem layGo_4 (W B m : Mat) (v u : Value) (w : World) (h : LayAt w v ⟨4, W, B⟩) (hu : MatAt w u m) (hf : Lay.goFault ⟨4, W, B⟩ m = 0) :
  Calls Try.prog 34 #[v, u] w fun e w' => ∃ x, e = .returned (.tuple #[x, .nilIface]) ∧ MatNew w.heap.size w' x (Lay.go ⟨4, W, B⟩ m) ∧ Below w.heap.size w w' := by
 obtain ⟨a, n, k, b, o, a', n', k', b', o', rfl, x0, x1⟩ := h
 obtain ⟨a2, n2, k2, b2, o2, rfl, x2⟩ := hu
 dsimp only at x0 x1
 obtain ⟨g1, g2, g3⟩ := Lay.goFault_ok hf
 have hgs : Goes ⟨4, W, B⟩ m := ⟨g1, g2, g3⟩
 have hE : errV (Lay.goFault ⟨4, W, B⟩ m) = .nilIface := errV_nil hf
 have HE := Lib.hid hE
 have hm : ∀ w, (Go.method 335 206 (.agg #[]) "galley/layer.run").run Try.prog w = .ok (160, .agg #[]) w := m_run_4
 have hn : ∀ w, (Go.nilAhead 335 206 (.agg #[]) "galley/layer.run").run Try.prog w = .ok (some false) w := n_run_4
 have HG := Lib.hid hgs
 clear hf hE g1 g2 g3 hgs
 go_enter Try.func34, Try.ntmps34
 go_wp2_with fail
 refine (layEnter_any ⟨4, W, B⟩ m _ _ _ ⟨_, _, _, _, _, _, _, _, _, _, rfl, x0.alloc _ |>.alloc _ |>.alloc _, x1.alloc _ |>.alloc _ |>.alloc _⟩ (MatAt.mk (x2.alloc _ |>.alloc _ |>.alloc _))).mono ?_
 rw [HE.out]
 rintro e w1 ⟨rfl, hb1⟩
 have B0 := ((Box.new w [.int .i64 4, .int .i64 W.rows, .int .i64 W.cols, .slice a n k, .int .i64 B.rows, .int .i64 B.cols, .slice a' n' k'] 69).alloc _ |>.alloc _).keep hb1
 have B0c := B0.cell
 have B0f := B0.thawed
 have B0z := B0.lt
 have B0k := lt_add B0z
 have B1 := ((Box.new' _ (w.heap.size + 1) [.int .i64 m.rows, .int .i64 m.cols, .slice a2 n2 k2] 28 (by simp)).alloc _).keep hb1
 have B1c := B1.cell
 have B1f := B1.thawed
 have B1z := B1.lt
 have B1k := lt_add B1z
 have B2 := (Box.new' _ (w.heap.size + 1 + 1) [.int .i64 0, .int .i64 0, .slice none 0 0] 28 (by simp)).keep hb1
 have B2c := B2.cell
 have B2f := B2.thawed
 have B2z := B2.lt
 have B2k := lt_add B2z
 have hkw1 : Below w.heap.size w w1 := (Below.x1 hb1)
 replace x0 := x0.keep hkw1
 replace x1 := x1.keep hkw1
 replace x2 := x2.keep hkw1
 have y0 := x0.drewN 1
 have y1 := x1.drewN 1
 have y2 := x2.drewN 1
 have hs1 := hb1.size
 simp at hs1
 go_wp2_with fail
 go_region_held3 (fun w' => w'.cell? ⟨w.heap.size, 0, none⟩ = some (.int .i64 4) ∧ w'.cell? ⟨w.heap.size, 1, none⟩ = some (.int .i64 W.rows) ∧ w'.cell? ⟨w.heap.size, 2, none⟩ = some (.int .i64 W.cols) ∧ w'.cell? ⟨w.heap.size, 3, none⟩ = some (.slice a n k) ∧ w'.cell? ⟨w.heap.size, 4, none⟩ = some (.int .i64 B.rows) ∧ w'.cell? ⟨w.heap.size, 5, none⟩ = some (.int .i64 B.cols) ∧ w'.cell? ⟨w.heap.size, 6, none⟩ = some (.slice a' n' k') ∧ w'.cell? ⟨w.heap.size + 1, 0, none⟩ = some (.int .i64 m.rows) ∧ w'.cell? ⟨w.heap.size + 1, 1, none⟩ = some (.int .i64 m.cols) ∧ w'.cell? ⟨w.heap.size + 1, 2, none⟩ = some (.slice a2 n2 k2)) (first | (exact ⟨B0.cell 0, B0.cell 1, B0.cell 2, B0.cell 3, B0.cell 4, B0.cell 5, B0.cell 6, B1.cell 0, B1.cell 1, B1.cell 2⟩) | (exact ⟨(B0.drew.keep hb2).cell 0, (B0.drew.keep hb2).cell 1, (B0.drew.keep hb2).cell 2, (B0.drew.keep hb2).cell 3, (B0.drew.keep hb2).cell 4, (B0.drew.keep hb2).cell 5, (B0.drew.keep hb2).cell 6, (B1.drew.keep hb2).cell 0, (B1.drew.keep hb2).cell 1, (B1.drew.keep hb2).cell 2⟩) | (exact ⟨D0.cell 0, D0.cell 1, D0.cell 2, D0.cell 3, D0.cell 4, D0.cell 5, D0.cell 6, D1.cell 0, D1.cell 1, D1.cell 2⟩) | (go_keep; done)) (first | (go_at_call 71; go_must (refine (of_4 _).mono ?_); go_must (rintro e w' ⟨rfl, rfl⟩)) | (go_at_call 160; go_must (refine (run_4 W B m _ _ _ _ _ _ _ _ _ _ _ _ _ _ y2 y1 HG.out).mono ?_); go_must (rintro e w2 ⟨v2, rfl, ⟨a3, n3, k3, b3, o3, rfl, hn3, x3⟩, hb2⟩); go_must (have C2 := B2.drew.keep hb2); go_must (have D0 := ((((B0.drew.keep hb2).far (a := ⟨w.heap.size + 1 + 1, 0, none⟩) (by dsimp only; omega) (.int .i64 (Lay.go ⟨4, W, B⟩ m).rows)).far (a := ⟨w.heap.size + 1 + 1, 1, none⟩) (by dsimp only; omega) (.int .i64 (Lay.go ⟨4, W, B⟩ m).cols)).far (a := ⟨w.heap.size + 1 + 1, 2, none⟩) (by dsimp only; omega) (.slice a3 n3 k3))); go_must (have D1 := ((((B1.drew.keep hb2).far (a := ⟨w.heap.size + 1 + 1, 0, none⟩) (by dsimp only; omega) (.int .i64 (Lay.go ⟨4, W, B⟩ m).rows)).far (a := ⟨w.heap.size + 1 + 1, 1, none⟩) (by dsimp only; omega) (.int .i64 (Lay.go ⟨4, W, B⟩ m).cols)).far (a := ⟨w.heap.size + 1 + 1, 2, none⟩) (by dsimp only; omega) (.slice a3 n3 k3))); have C2c := C2.cell; have C2f := C2.thawed))
 all_goals (
  go_wp2
  exact bodyPost_ret (v := .tuple #[.agg #[.int .i64 (Lay.go ⟨4, W, B⟩ m).rows, .int .i64 (Lay.go ⟨4, W, B⟩ m).cols, .slice a3 n3 k3], .nilIface]) (by simp [results, Try.results34, go_sem, C2c]) rfl ⟨_, rfl, MatNew.mk (fun h => by have := hn3 h; simp at this; omega) (x3.set3 (fun h => by have := hn3 h; simp at this; omega) _ _ _), (Below.x2 hb2 hb1)⟩)
theorem layGo_any (l : Lay) (m : Mat) (v u : Value) (w : World) (h : LayAt w v l) (hu : MatAt w u m) :
  Calls Try.prog 34 #[v, u] w fun e w' => ∃ x, e = .returned (.tuple #[x, errV (l.goFault m)]) ∧ MatNew w.heap.size w' x (orNone (l.goFault m) (l.go m)) ∧ Below w.heap.size w w' := by
 by_cases hf : l.goFault m = 0
 ·rw [orNone_ok hf, errV_nil hf]
  obtain ⟨g1, g2, g3⟩ := Lay.goFault_ok hf
  obtain ⟨h1, h2, _, _, _⟩ := Lay.fault_ok g1
  obtain ⟨kd, W, B⟩ := l
  dsimp only at h1 h2
  rcases (by omega : kd = 1 ∨ kd = 2 ∨ kd = 3 ∨ kd = 4) with rfl | rfl | rfl | rfl
  ·exact layGo_1 W B m v u w h hu hf
  ·exact layGo_2 W B m v u w h hu hf
  ·exact layGo_3 W B m v u w h hu hf
  ·exact layGo_4 W B m v u w h hu hf
 ·exact layGo_bad l m v u w h hu hf
end Go.Proofs.Ytchngeagnlngaaa
end
