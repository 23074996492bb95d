/- LayerBacks: of any layer and any matrices, what is wrong, what goes back and by how much the layer is to be turned are the document's: the law returns true, and the input reads as it did. No condition. -/
import Derived.Test.YtopckalgpeapnaaDoorCards
import Derived.Test.YtopckalgpeapnaaDoorTie
import Derived.Test.YtopckalgpeapnaaDoorRLay6
import Derived.Test.YtopckalgpeapnaaDoorLay12
import Derived.Test.YtopckalgpeapnaaDoorGrads
import Derived.Deep.DeepHandedRow
set_option linter.unusedVariables false
set_option linter.unusedSimpArgs false
set_option linter.unusedSectionVars false
namespace Go.Proofs.YtopckalgpeapnaaDoor.lawLayerBacks
open Go.ChangeShapes Go.WideShapes Go.ChangeAt Go.RowKit Gal
set_option maxRecDepth 100000
set_option maxHeartbeats 8000000
section
variable (l : Lay) (x g : Mat) (a a' a2 a3 : Option Addr) (n n' n2 n3 k k' k2 k3 b b' b2 b3 o o' o2 o3 : Nat) (w : World) (x0 : IntsAt w a n k b o l.W.cells) (x1 : IntsAt w a' n' k' b' o' l.B.cells) (x2 : IntsAt w a2 n2 k2 b2 o2 x.cells) (x3 : IntsAt w a3 n3 k3 b3 o3 g.cells) (hh : Handle w)
include x0 x1 x2 x3 hh
theorem walk1 (hf : l.backFault x g = 0) :
    Calls Tryd.prog 10 #[.agg #[.int .i64 l.kind, .int .i64 l.W.rows, .int .i64 l.W.cols, .slice a n k, .int .i64 l.B.rows, .int .i64 l.B.cols, .slice a' n' k'], .agg #[.int .i64 x.rows, .int .i64 x.cols, .slice a2 n2 k2], .agg #[.int .i64 g.rows, .int .i64 g.cols, .slice a3 n3 k3]] w fun e w' => e = .returned (.bool true) ∧ Below w.heap.size w w'
  := by
  have HB := Lib.hid hf
  have HE : Hid (errV (l.backFault x g) = .nilIface) := Lib.hid (errV_nil hf)
  have HO : Hid (orNone (l.backFault x g) (l.back x g) = l.back x g) := Lib.hid (orNone_ok hf)
  have HG : Hid (orGrd (l.backFault x g) (l.grad x g) = l.grad x g) := Lib.hid (orGrd_ok hf)
  clear hf
  have hh0 := hh
  go_enter Tryd.func10, Tryd.ntmps10
  go_wp2_with fail
  refine (layBack_any l x g _ _ _ _ ⟨_, _, _, _, _, _, _, _, _, _, rfl, x0.alloc _ |>.alloc _ |>.alloc _, x1.alloc _ |>.alloc _ |>.alloc _⟩ (MatAt.mk (x2.alloc _ |>.alloc _ |>.alloc _)) (MatAt.mk (x3.alloc _ |>.alloc _ |>.alloc _))).mono ?_
  skip
  rintro e w1 ⟨yv, dv, rfl, hy, hd, hb1⟩
  rw [HO.out] at hy
  rw [HG.out] at hd
  rw [HE.out]
  obtain ⟨a5, n5, k5, b5, o5, rfl, hn5, x5⟩ := hy
  obtain ⟨a6, n6, k6, b6, o6, a7, n7, k7, b7, o7, rfl, hn6, x6, hn7, x7⟩ := hd
  have B0 := ((show Box _ w.heap.size [.int .i64 l.kind, .int .i64 l.W.rows, .int .i64 l.W.cols, .slice a n k, .int .i64 l.B.rows, .int .i64 l.B.cols, .slice a' n' k'] 70 from (by repeat (first | fail | (with_reducible refine (Box.new' _ w.heap.size _ _ ?_); (simp; done)) | (with_reducible refine Box.alloc ?_ _) | (with_reducible refine Box.drewN ?_ _) | (with_reducible refine Box.drew ?_) | (with_reducible refine Box.far ?_ ?_ _; rotate_left 1; (first | (dsimp only; omega) | omega | (simp; omega) | simp)))))).keep hb1
  have B0c := B0.cell
  have B0f := B0.thawed
  have B0z := B0.lt
  have B0k := lt_add B0z
  have B1 := ((show Box _ (w.heap.size + 1) [.int .i64 x.rows, .int .i64 x.cols, .slice a2 n2 k2] 25 from (by repeat (first | fail | (with_reducible refine (Box.new' _ (w.heap.size + 1) _ _ ?_); (simp; done)) | (with_reducible refine Box.alloc ?_ _) | (with_reducible refine Box.drewN ?_ _) | (with_reducible refine Box.drew ?_) | (with_reducible refine Box.far ?_ ?_ _; rotate_left 1; (first | (dsimp only; omega) | omega | (simp; omega) | simp)))))).keep hb1
  have B1c := B1.cell
  have B1f := B1.thawed
  have B1z := B1.lt
  have B1k := lt_add B1z
  have B2 := ((show Box _ (w.heap.size + 1 + 1) [.int .i64 g.rows, .int .i64 g.cols, .slice a3 n3 k3] 25 from (by repeat (first | fail | (with_reducible refine (Box.new' _ (w.heap.size + 1 + 1) _ _ ?_); (simp; done)) | (with_reducible refine Box.alloc ?_ _) | (with_reducible refine Box.drewN ?_ _) | (with_reducible refine Box.drew ?_) | (with_reducible refine Box.far ?_ ?_ _; rotate_left 1; (first | (dsimp only; omega) | omega | (simp; omega) | simp)))))).keep hb1
  have B2c := B2.cell
  have B2f := B2.thawed
  have B2z := B2.lt
  have B2k := lt_add B2z
  have hkw1 : Below w.heap.size w w1 := (by repeat (first | fail | (with_reducible exact Below.refl _ _) | (with_reducible refine Below.al ?_ _) | (with_reducible refine Below.drN ?_ _) | (with_reducible refine Below.drew ?_) | (with_reducible refine Below.st ?_ ?_ _; rotate_left 1; (first | (dsimp only; omega) | omega | (simp; omega) | simp)) | (with_reducible refine Below.go ?_ hb1) | exact Below.refl _ _))
  replace x0 := x0.keep hkw1
  replace x1 := x1.keep hkw1
  replace x2 := x2.keep hkw1
  replace x3 := x3.keep hkw1
  replace hh := hh.keep hkw1
  have hsw1 := hkw1.size
  go_wp2_with fail
  refine (refBackFault_any l x g _ _ _ _ ⟨_, _, _, _, _, _, _, _, _, _, rfl, x0.alloc _ |>.alloc _, x1.alloc _ |>.alloc _⟩ (MatAt.mk (x2.alloc _ |>.alloc _)) (MatAt.mk (x3.alloc _ |>.alloc _))).mono ?_
  rw [HB.out]
  rintro e w2 ⟨rfl, hb2⟩
  have P7 := ((show Box _ w1.heap.size [.int .i64 (l.back x g).rows, .int .i64 (l.back x g).cols, .slice a5 n5 k5] 25 from (by repeat (first | fail | (with_reducible refine (Box.new' _ w1.heap.size _ _ ?_); (simp; done)) | (with_reducible refine Box.alloc ?_ _) | (with_reducible refine Box.drewN ?_ _) | (with_reducible refine Box.drew ?_) | (with_reducible refine Box.far ?_ ?_ _; rotate_left 1; (first | (dsimp only; omega) | omega | (simp; omega) | simp)))))).keep hb2
  have P7c := P7.cell
  have P7f := P7.thawed
  have P7z := P7.lt
  have P7k := lt_add P7z
  have P8 := ((show Box _ (w1.heap.size + 1) [.int .i64 (l.grad x g).W.rows, .int .i64 (l.grad x g).W.cols, .slice a6 n6 k6, .int .i64 (l.grad x g).B.rows, .int .i64 (l.grad x g).B.cols, .slice a7 n7 k7] 80 from (by repeat (first | fail | (with_reducible refine (Box.new' _ (w1.heap.size + 1) _ _ ?_); (simp; done)) | (with_reducible refine Box.alloc ?_ _) | (with_reducible refine Box.drewN ?_ _) | (with_reducible refine Box.drew ?_) | (with_reducible refine Box.far ?_ ?_ _; rotate_left 1; (first | (dsimp only; omega) | omega | (simp; omega) | simp)))))).keep hb2
  have P8c := P8.cell
  have P8f := P8.thawed
  have P8z := P8.lt
  have P8k := lt_add P8z
  have hkw2 : Below w1.heap.size w1 w2 := (by repeat (first | fail | (with_reducible exact Below.refl _ _) | (with_reducible refine Below.al ?_ _) | (with_reducible refine Below.drN ?_ _) | (with_reducible refine Below.drew ?_) | (with_reducible refine Below.st ?_ ?_ _; rotate_left 1; (first | (dsimp only; omega) | omega | (simp; omega) | simp)) | (with_reducible refine Below.go ?_ hb2) | exact Below.refl _ _))
  replace B0 := B0.keep hkw2
  replace B0c := B0.cell
  replace B0f := B0.thawed
  replace B0z := B0.lt
  replace B0k := lt_add B0z
  replace B1 := B1.keep hkw2
  replace B1c := B1.cell
  replace B1f := B1.thawed
  replace B1z := B1.lt
  replace B1k := lt_add B1z
  replace B2 := B2.keep hkw2
  replace B2c := B2.cell
  replace B2f := B2.thawed
  replace B2z := B2.lt
  replace B2k := lt_add B2z
  replace x0 := x0.keep hkw2
  replace x1 := x1.keep hkw2
  replace x2 := x2.keep hkw2
  replace x3 := x3.keep hkw2
  replace x5 := x5.keep hkw2
  replace x6 := x6.keep hkw2
  replace x7 := x7.keep hkw2
  replace hh := hh.keep hkw2
  have hsw2 := hkw2.size
  have z8 : w1.heap.size + 1 < w2.heap.size := P8z
  have l5 : 0 < n5 → b5 < w2.heap.size := x5.lt
  have l6 : 0 < n6 → b6 < w2.heap.size := x6.lt
  have l7 : 0 < n7 → b7 < w2.heap.size := x7.lt
  go_wp2_with fail
  refine (refBackOf_any l x g _ _ _ _ ⟨_, _, _, _, _, _, _, _, _, _, rfl, x0.alloc _ |>.alloc _, x1.alloc _ |>.alloc _⟩ (MatAt.mk (x2.alloc _ |>.alloc _)) (MatAt.mk (x3.alloc _ |>.alloc _)) HB.out).mono ?_
  rintro e w3 ⟨yv2, dv2, rfl, ⟨a8, n8, k8, b8, o8, rfl, hn8, x8⟩, ⟨a9, n9, k9, b9, o9, a10, n10, k10, b10, o10, rfl, hn9, x9, hn10, x10⟩, hb3⟩
  have Q1 := ((show Box _ w2.heap.size [.int .i64 0, .int .i64 0, .slice none 0 0] 25 from (by repeat (first | fail | (with_reducible refine (Box.new' _ w2.heap.size _ _ ?_); (simp; done)) | (with_reducible refine Box.alloc ?_ _) | (with_reducible refine Box.drewN ?_ _) | (with_reducible refine Box.drew ?_) | (with_reducible refine Box.far ?_ ?_ _; rotate_left 1; (first | (dsimp only; omega) | omega | (simp; omega) | simp)))))).keep hb3
  have Q1c := Q1.cell
  have Q1f := Q1.thawed
  have Q1z := Q1.lt
  have Q1k := lt_add Q1z
  have Q2 := ((show Box _ (w2.heap.size + 1) [.int .i64 0, .int .i64 0, .slice none 0 0, .int .i64 0, .int .i64 0, .slice none 0 0] 80 from (by repeat (first | fail | (with_reducible refine (Box.new' _ (w2.heap.size + 1) _ _ ?_); (simp; done)) | (with_reducible refine Box.alloc ?_ _) | (with_reducible refine Box.drewN ?_ _) | (with_reducible refine Box.drew ?_) | (with_reducible refine Box.far ?_ ?_ _; rotate_left 1; (first | (dsimp only; omega) | omega | (simp; omega) | simp)))))).keep hb3
  have Q2c := Q2.cell
  have Q2f := Q2.thawed
  have Q2z := Q2.lt
  have Q2k := lt_add Q2z
  have hkw3 : Below w2.heap.size w2 w3 := (by repeat (first | fail | (with_reducible exact Below.refl _ _) | (with_reducible refine Below.al ?_ _) | (with_reducible refine Below.drN ?_ _) | (with_reducible refine Below.drew ?_) | (with_reducible refine Below.st ?_ ?_ _; rotate_left 1; (first | (dsimp only; omega) | omega | (simp; omega) | simp)) | (with_reducible refine Below.go ?_ hb3) | exact Below.refl _ _))
  replace P7 := P7.keep hkw3
  replace P7c := P7.cell
  replace P7f := P7.thawed
  replace P7z := P7.lt
  replace P7k := lt_add P7z
  replace P8 := P8.keep hkw3
  replace P8c := P8.cell
  replace P8f := P8.thawed
  replace P8z := P8.lt
  replace P8k := lt_add P8z
  replace x5 := x5.keep hkw3
  replace x6 := x6.keep hkw3
  replace x7 := x7.keep hkw3
  replace hh := hh.keep hkw3
  have hsw3 := hkw3.size
  simp at hn8 hn9 hn10
  have l8 : 0 < n8 → w2.heap.size + 1 < b8 := fun h => by have := hn8 h; omega
  have l9 : 0 < n9 → w2.heap.size + 1 < b9 := fun h => by have := hn9 h; omega
  have l10 : 0 < n10 → w2.heap.size + 1 < b10 := fun h => by have := hn10 h; omega
  have hgl : 0 < w.heap.size := hh0.lt
  have hwl : w.heap.size < w2.heap.size := by have := hb2.size; have := hb1.size; simp at *; omega
  have hb0 : Below w.heap.size w w3 := (by repeat (first | fail | (with_reducible exact Below.refl _ _) | (with_reducible refine Below.al ?_ _) | (with_reducible refine Below.drN ?_ _) | (with_reducible refine Below.drew ?_) | (with_reducible refine Below.st ?_ ?_ _; rotate_left 1; (first | (dsimp only; omega) | omega | (simp; omega) | simp)) | (with_reducible refine Below.go ?_ hb3) | (with_reducible refine Below.go ?_ hb2) | (with_reducible refine Below.go ?_ hb1) | exact Below.refl _ _))
  obtain ⟨wq, hq, U7, U8, V1, V2, y5, y6, y7, y8, y9, y10, hhq, hbq⟩ : ∃ wq, (((((((((w3.setCell ⟨w2.heap.size, 0, none⟩ (.int .i64 (l.back x g).rows)).setCell ⟨w2.heap.size, 1, none⟩ (.int .i64 (l.back x g).cols)).setCell ⟨w2.heap.size, 2, none⟩ (.slice a8 n8 k8)).setCell ⟨w2.heap.size + 1, 0, none⟩ (.int .i64 (l.grad x g).W.rows)).setCell ⟨w2.heap.size + 1, 1, none⟩ (.int .i64 (l.grad x g).W.cols)).setCell ⟨w2.heap.size + 1, 2, none⟩ (.slice a9 n9 k9)).setCell ⟨w2.heap.size + 1, 3, none⟩ (.int .i64 (l.grad x g).B.rows)).setCell ⟨w2.heap.size + 1, 4, none⟩ (.int .i64 (l.grad x g).B.cols)).setCell ⟨w2.heap.size + 1, 5, none⟩ (.slice a10 n10 k10)) = wq ∧ Box wq w1.heap.size [.int .i64 (l.back x g).rows, .int .i64 (l.back x g).cols, .slice a5 n5 k5] 25 ∧ Box wq (w1.heap.size + 1) [.int .i64 (l.grad x g).W.rows, .int .i64 (l.grad x g).W.cols, .slice a6 n6 k6, .int .i64 (l.grad x g).B.rows, .int .i64 (l.grad x g).B.cols, .slice a7 n7 k7] 80 ∧ Box wq w2.heap.size [.int .i64 (l.back x g).rows, .int .i64 (l.back x g).cols, .slice a8 n8 k8] 25 ∧ Box wq (w2.heap.size + 1) [.int .i64 (l.grad x g).W.rows, .int .i64 (l.grad x g).W.cols, .slice a9 n9 k9, .int .i64 (l.grad x g).B.rows, .int .i64 (l.grad x g).B.cols, .slice a10 n10 k10] 80 ∧
      IntsAt wq a5 n5 k5 b5 o5 (l.back x g).cells ∧ IntsAt wq a6 n6 k6 b6 o6 (l.grad x g).W.cells ∧ IntsAt wq a7 n7 k7 b7 o7 (l.grad x g).B.cells ∧ IntsAt wq a8 n8 k8 b8 o8 (l.back x g).cells ∧ IntsAt wq a9 n9 k9 b9 o9 (l.grad x g).W.cells ∧ IntsAt wq a10 n10 k10 b10 o10 (l.grad x g).B.cells ∧ Handle wq ∧ Below w.heap.size w wq :=
    ⟨_, rfl, (by repeat (first | fail | (with_reducible exact P7) | (with_reducible refine Box.alloc ?_ _) | (with_reducible refine Box.drewN ?_ _) | (with_reducible refine Box.drew ?_) | (with_reducible refine Box.far ?_ ?_ _; rotate_left 1; (first | (dsimp only; omega) | omega | (simp; omega) | simp)) | exact P7)), (by repeat (first | fail | (with_reducible exact P8) | (with_reducible refine Box.alloc ?_ _) | (with_reducible refine Box.drewN ?_ _) | (with_reducible refine Box.drew ?_) | (with_reducible refine Box.far ?_ ?_ _; rotate_left 1; (first | (dsimp only; omega) | omega | (simp; omega) | simp)) | exact P8)), (by repeat (first | fail | (with_reducible exact Q1) | (with_reducible refine Box.alloc ?_ _) | (with_reducible refine Box.drewN ?_ _) | (with_reducible refine Box.drew ?_) | (with_reducible refine Box.set6z ?_ _ _ _ _ _ _) | (with_reducible refine Box.set3z ?_ _ _ _) | (with_reducible refine Box.far ?_ ?_ _; rotate_left 1; (first | (dsimp only; omega) | omega | (simp; omega) | simp)) | exact Q1)), (by repeat (first | fail | (with_reducible exact Q2) | (with_reducible refine Box.alloc ?_ _) | (with_reducible refine Box.drewN ?_ _) | (with_reducible refine Box.drew ?_) | (with_reducible refine Box.set6z ?_ _ _ _ _ _ _) | (with_reducible refine Box.set3z ?_ _ _ _) | (with_reducible refine Box.far ?_ ?_ _; rotate_left 1; (first | (dsimp only; omega) | omega | (simp; omega) | simp)) | exact Q2)), (by repeat (first | fail | (with_reducible exact x5) | (with_reducible refine IntsAt.alloc ?_ _) | (with_reducible refine IntsAt.drewN ?_ _) | (with_reducible refine IntsAt.drew ?_) | (with_reducible refine IntsAt.set ?_ ?_ _; rotate_left 1; (intro h0; have hq0 := l5 h0; first | (dsimp only; omega) | omega | (simp; omega) | simp)) | exact x5)), (by repeat (first | fail | (with_reducible exact x6) | (with_reducible refine IntsAt.alloc ?_ _) | (with_reducible refine IntsAt.drewN ?_ _) | (with_reducible refine IntsAt.drew ?_) | (with_reducible refine IntsAt.set ?_ ?_ _; rotate_left 1; (intro h0; have hq0 := l6 h0; first | (dsimp only; omega) | omega | (simp; omega) | simp)) | exact x6)), (by repeat (first | fail | (with_reducible exact x7) | (with_reducible refine IntsAt.alloc ?_ _) | (with_reducible refine IntsAt.drewN ?_ _) | (with_reducible refine IntsAt.drew ?_) | (with_reducible refine IntsAt.set ?_ ?_ _; rotate_left 1; (intro h0; have hq0 := l7 h0; first | (dsimp only; omega) | omega | (simp; omega) | simp)) | exact x7)), (by repeat (first | fail | (with_reducible exact x8) | (with_reducible refine IntsAt.alloc ?_ _) | (with_reducible refine IntsAt.drewN ?_ _) | (with_reducible refine IntsAt.drew ?_) | (with_reducible refine IntsAt.set ?_ ?_ _; rotate_left 1; (intro h0; have hq0 := l8 h0; first | (dsimp only; omega) | omega | (simp; omega) | simp)) | exact x8)), (by repeat (first | fail | (with_reducible exact x9) | (with_reducible refine IntsAt.alloc ?_ _) | (with_reducible refine IntsAt.drewN ?_ _) | (with_reducible refine IntsAt.drew ?_) | (with_reducible refine IntsAt.set ?_ ?_ _; rotate_left 1; (intro h0; have hq0 := l9 h0; first | (dsimp only; omega) | omega | (simp; omega) | simp)) | exact x9)), (by repeat (first | fail | (with_reducible exact x10) | (with_reducible refine IntsAt.alloc ?_ _) | (with_reducible refine IntsAt.drewN ?_ _) | (with_reducible refine IntsAt.drew ?_) | (with_reducible refine IntsAt.set ?_ ?_ _; rotate_left 1; (intro h0; have hq0 := l10 h0; first | (dsimp only; omega) | omega | (simp; omega) | simp)) | exact x10)),
      hh.farS (S := fun k => k = w2.heap.size ∨ k = w2.heap.size + 1) (((((((((Far.refl _ w3).st (fun _ => Or.inl rfl) _).st (fun _ => Or.inl rfl) _).st (fun _ => Or.inl rfl) _).st (fun _ => Or.inr rfl) _).st (fun _ => Or.inr rfl) _).st (fun _ => Or.inr rfl) _).st (fun _ => Or.inr rfl) _).st (fun _ => Or.inr rfl) _ |>.st (fun _ => Or.inr rfl) _) (by omega), (by repeat (first | fail | (with_reducible exact Below.refl _ _) | (with_reducible exact hb0) | (with_reducible refine Below.al ?_ _) | (with_reducible refine Below.drN ?_ _) | (with_reducible refine Below.drew ?_) | (with_reducible refine Below.st ?_ ?_ _; rotate_left 1; (first | (dsimp only; omega) | omega | (simp; omega) | simp)) | exact Below.refl _ _ | exact hb0))⟩
  go_wp2_with fail
  try rw [hq]
  clear hq P7 P7c P7f P7z P7k P8 P8c P8f P8z P8k Q1 Q1c Q1f Q1z Q1k Q2 Q2c Q2f Q2z Q2k
  have W7 := U7
  have W7c := W7.cell
  have W7f := W7.thawed
  have W7z := W7.lt
  have W7k := lt_add W7z
  have W8 := U8
  have W8c := W8.cell
  have W8f := W8.thawed
  have W8z := W8.lt
  have W8k := lt_add W8z
  have W1 := V1
  have W1c := W1.cell
  have W1f := W1.thawed
  have W1z := W1.lt
  have W1k := lt_add W1z
  have W2 := V2
  have W2c := W2.cell
  have W2f := W2.thawed
  have W2z := W2.lt
  have W2k := lt_add W2z
  refine (error_same 0 _ hhq).mono ?_
  rintro e w21 ⟨rfl, hb21⟩
  have hkw21 : Below wq.heap.size wq w21 := (by repeat (first | fail | (with_reducible exact Below.refl _ _) | (with_reducible refine Below.al ?_ _) | (with_reducible refine Below.drN ?_ _) | (with_reducible refine Below.drew ?_) | (with_reducible refine Below.st ?_ ?_ _; rotate_left 1; (first | (dsimp only; omega) | omega | (simp; omega) | simp)) | (with_reducible refine Below.go ?_ hb21) | exact Below.refl _ _))
  replace W7 := W7.keep hkw21
  replace W7c := W7.cell
  replace W7f := W7.thawed
  replace W7z := W7.lt
  replace W7k := lt_add W7z
  replace W8 := W8.keep hkw21
  replace W8c := W8.cell
  replace W8f := W8.thawed
  replace W8z := W8.lt
  replace W8k := lt_add W8z
  replace W1 := W1.keep hkw21
  replace W1c := W1.cell
  replace W1f := W1.thawed
  replace W1z := W1.lt
  replace W1k := lt_add W1z
  replace W2 := W2.keep hkw21
  replace W2c := W2.cell
  replace W2f := W2.thawed
  replace W2z := W2.lt
  replace W2k := lt_add W2z
  replace y5 := y5.keep hkw21
  replace y6 := y6.keep hkw21
  replace y7 := y7.keep hkw21
  replace y8 := y8.keep hkw21
  replace y9 := y9.keep hkw21
  replace y10 := y10.keep hkw21
  have hbq21 : Below w.heap.size w w21 := (by repeat (first | fail | (with_reducible exact Below.refl _ _) | (with_reducible exact hbq) | (with_reducible refine Below.al ?_ _) | (with_reducible refine Below.drN ?_ _) | (with_reducible refine Below.drew ?_) | (with_reducible refine Below.st ?_ ?_ _; rotate_left 1; (first | (dsimp only; omega) | omega | (simp; omega) | simp)) | (with_reducible refine Below.go ?_ hb21) | exact Below.refl _ _ | exact hbq))
  go_wp2_with fail
  refine (matrices_same (l.back x g) _ _ _ (MatAt.mk y5) (MatAt.mk y8)).mono ?_
  rintro e w22 ⟨rfl, hb22⟩
  have hkw22 : Below w21.heap.size w21 w22 := (by repeat (first | fail | (with_reducible exact Below.refl _ _) | (with_reducible refine Below.al ?_ _) | (with_reducible refine Below.drN ?_ _) | (with_reducible refine Below.drew ?_) | (with_reducible refine Below.st ?_ ?_ _; rotate_left 1; (first | (dsimp only; omega) | omega | (simp; omega) | simp)) | (with_reducible refine Below.go ?_ hb22) | exact Below.refl _ _))
  replace W8 := W8.keep hkw22
  replace W8c := W8.cell
  replace W8f := W8.thawed
  replace W8z := W8.lt
  replace W8k := lt_add W8z
  replace W2 := W2.keep hkw22
  replace W2c := W2.cell
  replace W2f := W2.thawed
  replace W2z := W2.lt
  replace W2k := lt_add W2z
  replace y6 := y6.keep hkw22
  replace y7 := y7.keep hkw22
  replace y9 := y9.keep hkw22
  replace y10 := y10.keep hkw22
  have hsw22 := hkw22.size
  go_wp2_with fail
  refine (grads_same [l.grad x g] anyB anyB _ _ _ _ _ _ _ _ _ _ _ (row_one (b := w22.heap.size) (T := 80) (Box.alloc (Box.new' _ _ _ _ (by simp)) _) (reads_grd (fun _ => trivial) (y6.alloc _ |>.alloc _) (fun _ => trivial) (y7.alloc _ |>.alloc _)) trivial) (row_one (b := w22.heap.size + 1) (T := 80) (Box.new' _ _ _ _ (by simp)) (reads_grd (fun _ => trivial) (y9.alloc _ |>.alloc _) (fun _ => trivial) (y10.alloc _ |>.alloc _)) trivial)).mono ?_
  rintro e w23 ⟨rfl, hb23⟩
  have hbe : Below w.heap.size w w23 := (by repeat (first | fail | (with_reducible exact Below.refl _ _) | (with_reducible exact hbq21) | (with_reducible refine Below.al ?_ _) | (with_reducible refine Below.drN ?_ _) | (with_reducible refine Below.drew ?_) | (with_reducible refine Below.st ?_ ?_ _; rotate_left 1; (first | (dsimp only; omega) | omega | (simp; omega) | simp)) | (with_reducible refine Below.go ?_ hb23) | (with_reducible refine Below.go ?_ hb22) | exact Below.refl _ _ | exact hbq21))
  go_wp2
  go_ret
  exact ⟨rfl, hbe⟩
theorem walk2 (hf : l.backFault x g ≠ 0) :
    Calls Tryd.prog 10 #[.agg #[.int .i64 l.kind, .int .i64 l.W.rows, .int .i64 l.W.cols, .slice a n k, .int .i64 l.B.rows, .int .i64 l.B.cols, .slice a' n' k'], .agg #[.int .i64 x.rows, .int .i64 x.cols, .slice a2 n2 k2], .agg #[.int .i64 g.rows, .int .i64 g.cols, .slice a3 n3 k3]] w fun e w' => e = .returned (.bool true) ∧ Below w.heap.size w w'
  := by
  have HO : Hid (orNone (l.backFault x g) (l.back x g) = Mat.none) := Lib.hid (orNone_bad hf)
  have HG : Hid (orGrd (l.backFault x g) (l.grad x g) = Grd.none) := Lib.hid (orGrd_bad hf)
  have hq : (l.backFault x g == 0) = false := by simp [hf]
  clear hf
  go_enter Tryd.func10, Tryd.ntmps10
  go_wp2_with fail
  refine (layBack_any l x g _ _ _ _ ⟨_, _, _, _, _, _, _, _, _, _, rfl, x0.alloc _ |>.alloc _ |>.alloc _, x1.alloc _ |>.alloc _ |>.alloc _⟩ (MatAt.mk (x2.alloc _ |>.alloc _ |>.alloc _)) (MatAt.mk (x3.alloc _ |>.alloc _ |>.alloc _))).mono ?_
  skip
  rintro e w1 ⟨yv, dv, rfl, hy, hd, hb1⟩
  rw [HO.out] at hy
  rw [HG.out] at hd
  obtain ⟨a5, n5, k5, b5, o5, hyv, hn5, x5⟩ := hy
  obtain rfl : yv = .agg #[.int .i64 0, .int .i64 0, .slice a5 n5 k5] := hyv
  obtain ⟨a6, n6, k6, b6, o6, a7, n7, k7, b7, o7, hdv, hn6, x6, hn7, x7⟩ := hd
  obtain rfl : dv = .agg #[.int .i64 0, .int .i64 0, .slice a6 n6 k6, .int .i64 0, .int .i64 0, .slice a7 n7 k7] := hdv
  have B0 := ((show Box _ w.heap.size [.int .i64 l.kind, .int .i64 l.W.rows, .int .i64 l.W.cols, .slice a n k, .int .i64 l.B.rows, .int .i64 l.B.cols, .slice a' n' k'] 70 from (by repeat (first | fail | (with_reducible refine (Box.new' _ w.heap.size _ _ ?_); (simp; done)) | (with_reducible refine Box.alloc ?_ _) | (with_reducible refine Box.drewN ?_ _) | (with_reducible refine Box.drew ?_) | (with_reducible refine Box.far ?_ ?_ _; rotate_left 1; (first | (dsimp only; omega) | omega | (simp; omega) | simp)))))).keep hb1
  have B0c := B0.cell
  have B0f := B0.thawed
  have B0z := B0.lt
  have B0k := lt_add B0z
  have B1 := ((show Box _ (w.heap.size + 1) [.int .i64 x.rows, .int .i64 x.cols, .slice a2 n2 k2] 25 from (by repeat (first | fail | (with_reducible refine (Box.new' _ (w.heap.size + 1) _ _ ?_); (simp; done)) | (with_reducible refine Box.alloc ?_ _) | (with_reducible refine Box.drewN ?_ _) | (with_reducible refine Box.drew ?_) | (with_reducible refine Box.far ?_ ?_ _; rotate_left 1; (first | (dsimp only; omega) | omega | (simp; omega) | simp)))))).keep hb1
  have B1c := B1.cell
  have B1f := B1.thawed
  have B1z := B1.lt
  have B1k := lt_add B1z
  have B2 := ((show Box _ (w.heap.size + 1 + 1) [.int .i64 g.rows, .int .i64 g.cols, .slice a3 n3 k3] 25 from (by repeat (first | fail | (with_reducible refine (Box.new' _ (w.heap.size + 1 + 1) _ _ ?_); (simp; done)) | (with_reducible refine Box.alloc ?_ _) | (with_reducible refine Box.drewN ?_ _) | (with_reducible refine Box.drew ?_) | (with_reducible refine Box.far ?_ ?_ _; rotate_left 1; (first | (dsimp only; omega) | omega | (simp; omega) | simp)))))).keep hb1
  have B2c := B2.cell
  have B2f := B2.thawed
  have B2z := B2.lt
  have B2k := lt_add B2z
  have hkw1 : Below w.heap.size w w1 := (by repeat (first | fail | (with_reducible exact Below.refl _ _) | (with_reducible refine Below.al ?_ _) | (with_reducible refine Below.drN ?_ _) | (with_reducible refine Below.drew ?_) | (with_reducible refine Below.st ?_ ?_ _; rotate_left 1; (first | (dsimp only; omega) | omega | (simp; omega) | simp)) | (with_reducible refine Below.go ?_ hb1) | exact Below.refl _ _))
  replace x0 := x0.keep hkw1
  replace x1 := x1.keep hkw1
  replace x2 := x2.keep hkw1
  replace x3 := x3.keep hkw1
  replace hh := hh.keep hkw1
  have hsw1 := hkw1.size
  go_wp2_with fail
  refine (refBackFault_any l x g _ _ _ _ ⟨_, _, _, _, _, _, _, _, _, _, rfl, x0.alloc _ |>.alloc _, x1.alloc _ |>.alloc _⟩ (MatAt.mk (x2.alloc _ |>.alloc _)) (MatAt.mk (x3.alloc _ |>.alloc _))).mono ?_
  rintro e w2 ⟨rfl, hb2⟩
  have P7 := ((show Box _ w1.heap.size [.int .i64 0, .int .i64 0, .slice a5 n5 k5] 25 from (by repeat (first | fail | (with_reducible refine (Box.new' _ w1.heap.size _ _ ?_); (simp; done)) | (with_reducible refine Box.alloc ?_ _) | (with_reducible refine Box.drewN ?_ _) | (with_reducible refine Box.drew ?_) | (with_reducible refine Box.far ?_ ?_ _; rotate_left 1; (first | (dsimp only; omega) | omega | (simp; omega) | simp)))))).keep hb2
  have P7c := P7.cell
  have P7f := P7.thawed
  have P7z := P7.lt
  have P7k := lt_add P7z
  have P8 := ((show Box _ (w1.heap.size + 1) [.int .i64 0, .int .i64 0, .slice a6 n6 k6, .int .i64 0, .int .i64 0, .slice a7 n7 k7] 80 from (by repeat (first | fail | (with_reducible refine (Box.new' _ (w1.heap.size + 1) _ _ ?_); (simp; done)) | (with_reducible refine Box.alloc ?_ _) | (with_reducible refine Box.drewN ?_ _) | (with_reducible refine Box.drew ?_) | (with_reducible refine Box.far ?_ ?_ _; rotate_left 1; (first | (dsimp only; omega) | omega | (simp; omega) | simp)))))).keep hb2
  have P8c := P8.cell
  have P8f := P8.thawed
  have P8z := P8.lt
  have P8k := lt_add P8z
  have hkw2 : Below w1.heap.size w1 w2 := (by repeat (first | fail | (with_reducible exact Below.refl _ _) | (with_reducible refine Below.al ?_ _) | (with_reducible refine Below.drN ?_ _) | (with_reducible refine Below.drew ?_) | (with_reducible refine Below.st ?_ ?_ _; rotate_left 1; (first | (dsimp only; omega) | omega | (simp; omega) | simp)) | (with_reducible refine Below.go ?_ hb2) | exact Below.refl _ _))
  replace x5 := x5.keep hkw2
  replace x6 := x6.keep hkw2
  replace x7 := x7.keep hkw2
  replace hh := hh.keep hkw2
  have hsw2 := hkw2.size
  go_wp2_with fail
  refine (error_same _ _ (hh.alloc _ |>.alloc _)).mono ?_
  rintro e w3 ⟨rfl, hb3⟩
  have Q1 := ((show Box _ w2.heap.size [.int .i64 0, .int .i64 0, .slice none 0 0] 25 from (by repeat (first | fail | (with_reducible refine (Box.new' _ w2.heap.size _ _ ?_); (simp; done)) | (with_reducible refine Box.alloc ?_ _) | (with_reducible refine Box.drewN ?_ _) | (with_reducible refine Box.drew ?_) | (with_reducible refine Box.far ?_ ?_ _; rotate_left 1; (first | (dsimp only; omega) | omega | (simp; omega) | simp)))))).keep hb3
  have Q1c := Q1.cell
  have Q1f := Q1.thawed
  have Q1z := Q1.lt
  have Q1k := lt_add Q1z
  have Q2 := ((show Box _ (w2.heap.size + 1) [.int .i64 0, .int .i64 0, .slice none 0 0, .int .i64 0, .int .i64 0, .slice none 0 0] 80 from (by repeat (first | fail | (with_reducible refine (Box.new' _ (w2.heap.size + 1) _ _ ?_); (simp; done)) | (with_reducible refine Box.alloc ?_ _) | (with_reducible refine Box.drewN ?_ _) | (with_reducible refine Box.drew ?_) | (with_reducible refine Box.far ?_ ?_ _; rotate_left 1; (first | (dsimp only; omega) | omega | (simp; omega) | simp)))))).keep hb3
  have Q2c := Q2.cell
  have Q2f := Q2.thawed
  have Q2z := Q2.lt
  have Q2k := lt_add Q2z
  have hkw3 : Below w2.heap.size w2 w3 := (by repeat (first | fail | (with_reducible exact Below.refl _ _) | (with_reducible refine Below.al ?_ _) | (with_reducible refine Below.drN ?_ _) | (with_reducible refine Below.drew ?_) | (with_reducible refine Below.st ?_ ?_ _; rotate_left 1; (first | (dsimp only; omega) | omega | (simp; omega) | simp)) | (with_reducible refine Below.go ?_ hb3) | exact Below.refl _ _))
  replace P7 := P7.keep hkw3
  replace P7c := P7.cell
  replace P7f := P7.thawed
  replace P7z := P7.lt
  replace P7k := lt_add P7z
  replace P8 := P8.keep hkw3
  replace P8c := P8.cell
  replace P8f := P8.thawed
  replace P8z := P8.lt
  replace P8k := lt_add P8z
  replace x5 := x5.keep hkw3
  replace x6 := x6.keep hkw3
  replace x7 := x7.keep hkw3
  have hsw3 := hkw3.size
  go_wp2_with fail
  refine (matrices_same Mat.none _ _ _ (MatAt.mk x5) (none_at _)).mono ?_
  rintro e w4 ⟨rfl, hb4⟩
  have hkw4 : Below w3.heap.size w3 w4 := (by repeat (first | fail | (with_reducible exact Below.refl _ _) | (with_reducible refine Below.al ?_ _) | (with_reducible refine Below.drN ?_ _) | (with_reducible refine Below.drew ?_) | (with_reducible refine Below.st ?_ ?_ _; rotate_left 1; (first | (dsimp only; omega) | omega | (simp; omega) | simp)) | (with_reducible refine Below.go ?_ hb4) | exact Below.refl _ _))
  replace P8 := P8.keep hkw4
  replace P8c := P8.cell
  replace P8f := P8.thawed
  replace P8z := P8.lt
  replace P8k := lt_add P8z
  replace Q2 := Q2.keep hkw4
  replace Q2c := Q2.cell
  replace Q2f := Q2.thawed
  replace Q2z := Q2.lt
  replace Q2k := lt_add Q2z
  replace x6 := x6.keep hkw4
  replace x7 := x7.keep hkw4
  have hsw4 := hkw4.size
  go_wp2_with fail
  refine (grads_same [Grd.none] anyB anyB _ _ _ _ _ _ _ _ _ _ _ (row_one (b := w4.heap.size) (T := 80) (Box.alloc (Box.new' _ _ _ _ (by simp)) _) (reads_grd (d := Grd.none) (fun _ => trivial) (x6.alloc _ |>.alloc _) (fun _ => trivial) (x7.alloc _ |>.alloc _)) trivial) (row_one (b := w4.heap.size + 1) (T := 80) (Box.new' _ _ _ _ (by simp)) (reads_grd (d := Grd.none) (fun _ => trivial) (noInts _) (fun _ => trivial) (noInts _)) trivial)).mono ?_
  rintro e w5 ⟨rfl, hb5⟩
  have hbe : Below w.heap.size w w5 := (by repeat (first | fail | (with_reducible exact Below.refl _ _) | (with_reducible refine Below.al ?_ _) | (with_reducible refine Below.drN ?_ _) | (with_reducible refine Below.drew ?_) | (with_reducible refine Below.st ?_ ?_ _; rotate_left 1; (first | (dsimp only; omega) | omega | (simp; omega) | simp)) | (with_reducible refine Below.go ?_ hb5) | (with_reducible refine Below.go ?_ hb4) | (with_reducible refine Below.go ?_ hb3) | (with_reducible refine Below.go ?_ hb2) | (with_reducible refine Below.go ?_ hb1) | exact Below.refl _ _))
  go_wp2
  go_ret
  exact ⟨rfl, hbe⟩
end
theorem walk (l : Lay) (vl : Value) (x : Mat) (vx : Value) (g : Mat) (vg : Value) (w : World) (hl : LayAt w vl l) (hx : MatAt w vx x) (hg : MatAt w vg g) (hh : Handle w) :
    Calls Tryd.prog 10 #[vl, vx, vg] w fun e w' => e = .returned (.bool true) ∧ Below w.heap.size w w' := by
  obtain ⟨a, n, k, b, o, a', n', k', b', o', rfl, x0, x1⟩ := hl
  obtain ⟨a2, n2, k2, b2, o2, rfl, x2⟩ := hx
  obtain ⟨a3, n3, k3, b3, o3, rfl, x3⟩ := hg
  by_cases hf : l.backFault x g = 0
  · exact walk1 l x g _ _ _ _ _ _ _ _ _ _ _ _ _ _ _ _ _ _ _ _ w x0 x1 x2 x3 hh hf
  · exact walk2 l x g _ _ _ _ _ _ _ _ _ _ _ _ _ _ _ _ _ _ _ _ w x0 x1 x2 x3 hh hf

theorem own : ownKnob Tryd.prog.godebug = none := by kernel_rfl
theorem laidOut : laidOutB Tryd.prog = true := by kernel_rfl
theorem et : Tryd.prog.globalNamed "errors.errorType" = some 0 := by kernel_rfl
theorem rt : (Tryd.prog.cutTypes.find? (·.1 == "internal/reflectlite.rtype")).map (·.2) = some 171 := by kernel_rfl
theorem oneRow : ((List.range 215).filter fun t => Tryd.prog.rowNamed t [101, 114, 114, 111, 114]) = [27] := by kernel_rfl
theorem tsize : Tryd.prog.types.size = 215 := by kernel_rfl
theorem handle_of_laid {W : World} (h : laidMetH Tryd.prog Rows.layerBacksRow.laid W) : Handle W := by
  have h' : laidMet Tryd.prog [] W ∧ handlesMet Tryd.prog Rows.layerBacksRow.laid W := h
  obtain ⟨name, u, ty, e1, e2, e3, e4, e5⟩ := h'.2 _ (List.mem_singleton.2 rfl)
  have en : name = [101, 114, 114, 111, 114] := (Option.some.inj e1).symm
  subst en
  obtain rfl := Option.some.inj (rt.symm.trans e2)
  have hm : ty ∈ (List.range 215).filter fun t => Tryd.prog.rowNamed t [101, 114, 114, 111, 114] := List.mem_filter.2 ⟨List.mem_range.2 (by rw [← tsize]; exact e3), e4⟩
  rw [oneRow] at hm
  obtain rfl := List.mem_singleton.1 hm
  have hh : typeHandle Tryd.prog 27 = .pointer (some ⟨1, 27, none⟩) := by kernel_rfl
  rw [hh] at e5
  simpa [Handle, handleV] using World.var?_cell et e5 0
noncomputable def laidWorld (os : Os) : World :=
  { World.holding Tryd.prog os ⟨#[], #[], []⟩ with heap := (World.holding Tryd.prog os ⟨#[], #[], []⟩).heap.modify 0 fun
      | .cells _ t frozen => .cells #[.iface 171 (.agg #[.pointer (some ⟨1, 27, none⟩)])] t frozen
      | o => o }
theorem laid_met (os : Os) : laidMetH Tryd.prog Rows.layerBacksRow.laid ((laidWorld os).forCall (fun _ _ => 0) ⟨#[], #[.agg #[.int .i64 0, .int .i64 0, .int .i64 0, .slice none 0 0, .int .i64 0, .int .i64 0, .slice none 0 0], .agg #[.int .i64 0, .int .i64 0, .slice none 0 0], .agg #[.int .i64 0, .int .i64 0, .slice none 0 0]], []⟩).memory :=
  laidMetH_of_parts (laidMet_nil _ _) (by kernel_rfl)
theorem reads (os : Os) {H : Type} (enc : TypeId × Value → H) : ∃ places, DataW.whole enc Tryd.prog ((laidWorld os).forCall (fun _ _ => 0) ⟨#[], #[.agg #[.int .i64 0, .int .i64 0, .int .i64 0, .slice none 0 0, .int .i64 0, .int .i64 0, .slice none 0 0], .agg #[.int .i64 0, .int .i64 0, .slice none 0 0], .agg #[.int .i64 0, .int .i64 0, .slice none 0 0]], []⟩).memory Tryd.f10.params.toList Rows.layerBacksSpec.vars false (#[.agg #[.int .i64 0, .int .i64 0, .int .i64 0, .slice none 0 0, .int .i64 0, .int .i64 0, .slice none 0 0], .agg #[.int .i64 0, .int .i64 0, .slice none 0 0], .agg #[.int .i64 0, .int .i64 0, .slice none 0 0]] : Array Value).toList 8 = some ([.agg [.lit (.int .i64 0), .agg [.lit (.int .i64 0), .lit (.int .i64 0), .nil], .agg [.lit (.int .i64 0), .lit (.int .i64 0), .nil]], .agg [.lit (.int .i64 0), .lit (.int .i64 0), .nil], .agg [.lit (.int .i64 0), .lit (.int .i64 0), .nil]], [], places) :=
  ⟨[], by kernel_rfl⟩
set_option maxRecDepth 100000 in
set_option maxHeartbeats 1000000 in
theorem contract (H : Type) (enc : TypeId × Value → H) (W : World) (base : Nat) (args : Array Value) (ds gs : List (DataW H)) (before : List MemPlace)
    (hval0 : ∀ (j : Nat) t v, Tryd.f10.params[j]? = some t → args[j]? = some v → Value.okWide Tryd.prog W .any base t v)
    (hW : DataW.Whole enc Tryd.prog Tryd.f10.params.toList Rows.layerBacksSpec.vars false W args.toList ds gs before) (hh : Handle W) :
    Calls Tryd.prog 10 args W fun e W' => ∃ v, e = .returned v ∧ Rows.layerBacksSpec.post enc Tryd.prog Tryd.f10 false true false false W args v W' := by
  have hval := hval0
  have hW' := hW
  obtain ⟨p, q, hA0, hV, rfl, hfz, hnd⟩ := hW
  have hA : DataW.TrodAll enc Tryd.prog W 0 (fun _ => true) true Tryd.f10.params.toList args.toList ds p := hA0
  rw [Tryd.params10] at hA hval
  obtain ⟨v0, vs0, d0, ds0, p0, q0, hargs, rfl, rfl, h0, r0⟩ := trodAll_cons hA
  obtain ⟨v1, vs1, d1, ds1, p1, q1, rfl, rfl, rfl, h1, r1⟩ := trodAll_cons r0
  obtain ⟨v2, vs2, d2, ds2, p2, q2, rfl, rfl, rfl, h2, r2⟩ := trodAll_cons r1
  obtain ⟨rfl, rfl, rfl⟩ := trodAll_nil r2
  obtain rfl : args = #[v0, v1, v2] := by cases args; simp_all
  obtain ⟨rfl, rfl⟩ := trodVars_none hV
  have k0 := h0
  have lt0 : ∀ x ∈ p0, x.block < W.heap.size := by obtain ⟨m, hm⟩ := k0; exact DataW.trod_lt m _ _ _ hm
  have k1 := h1
  have lt1 : ∀ x ∈ p1, x.block < W.heap.size := by obtain ⟨m, hm⟩ := k1; exact DataW.trod_lt m _ _ _ hm
  have k2 := h2
  have lt2 : ∀ x ∈ p2, x.block < W.heap.size := by obtain ⟨m, hm⟩ := k2; exact DataW.trod_lt m _ _ _ hm
  obtain ⟨a0, w0⟩ := open_Layer (hval 0 70 v0 rfl rfl) h0
  obtain ⟨a1, w1⟩ := open_mat (hval 1 25 v1 rfl rfl) h1
  obtain ⟨a2, w2⟩ := open_mat (hval 2 25 v2 rfl rfl) h2
  clear hA0 hval0
  refine (walk a0 v0 a1 v1 a2 v2 W w0 w1 w2 hh).mono fun e W' ⟨he, bel⟩ => ?_
  subst he
  exact ⟨_, rfl, _, _, _, [], _, [], hW', trodAll_mk1 (shut_bool Tryd.underlying4 _), (trodAll_cons_mk (Below.trod laidOut (by kernel_rfl) (of_decide_eq_true (by kernel_rfl)) k0 bel lt0) (trodAll_cons_mk (Below.trod laidOut (by kernel_rfl) (of_decide_eq_true (by kernel_rfl)) k1 bel lt1) (trodAll_cons_mk (Below.trod laidOut (by kernel_rfl) (of_decide_eq_true (by kernel_rfl)) k2 bel lt2) trodAll_mk0))), rfl, bel.frame _, fun h => by cases h⟩

set_option maxRecDepth 100000 in
theorem lifted (os : Os) (started : os.Started) (H : Type) (enc : TypeId × Value → H) (F : Stop.Interp) :
    ReturnsInHanded {} Tryd.checked os 10 .any ((OpenSpec.ofChange Rows.layerBacksSpec).preRow enc Tryd.prog Tryd.f10 Rows.layerBacksRow.domain false Rows.layerBacksRow.laid) (((OpenSpec.ofChange Rows.layerBacksSpec).at F).post enc Tryd.prog Tryd.f10 false true false false) := by
  obtain ⟨places, hx⟩ := reads os enc
  refine returnsInHanded_of_row (C := Tryd.checked) (s := OpenSpec.ofChange Rows.layerBacksSpec) own started (by kernel_rfl) Tryd.func10
    (witness_row_at (enc := enc) (C := Tryd.checked) false (laidWorld os) #[.agg #[.int .i64 0, .int .i64 0, .int .i64 0, .slice none 0 0, .int .i64 0, .int .i64 0, .slice none 0 0], .agg #[.int .i64 0, .int .i64 0, .slice none 0 0], .agg #[.int .i64 0, .int .i64 0, .slice none 0 0]] rfl (by kernel_rfl) (by kernel_rfl) (by kernel_rfl)
      (OpenSpec.preRow_of_cond 8 hx (by kernel_rfl) (fun k hk => by cases hk) (by kernel_rfl) (laid_met os))) ?_
  intro W base args ds gs before hval hW _ _ _ hL _ _
  exact contract H enc W base args ds gs before hval hW (handle_of_laid hL)

theorem said : Rows.LayerBacksSaid :=
  OpenClaim.holds_of_cond 10 Tryd.f10 rfl rfl rfl rfl rfl rfl rfl ⟨rfl, rfl, rfl, rfl, rfl⟩ rfl rfl rfl rfl rfl (by kernel_rfl) Tryd.func10 (by kernel_rfl)
    (of_decide_eq_true (by kernel_rfl)) (by unfold Func.isWrapper; first | (rw [if_pos (by decide +kernel)]; kernel_rfl) | (rw [if_neg (by decide +kernel)]; exact ⟨rfl, rfl⟩))
    (fun os started H enc _ F => by rw [OpenClaim.pre_eq_preRow]; exact lifted os started H enc F)
theorem plain (f : FuncId) (fn : Func) (hf : Tryd.pinned.checked.prog.funcNamed Rows.layerBacksRow.func = some f) (hfn : Tryd.pinned.checked.prog.funcs[f]? = some fn) :
    Rows.layerBacksCard.stood.looks = Tryd.pinned.checked.prog.looks [] ∧ ∀ (j : Nat) t, fn.params[j]? = some t → Tryd.pinned.checked.prog.wantsStandIn t = false := by
  obtain rfl : f = 10 := Option.some.inj ((show Tryd.prog.funcNamed Rows.layerBacksRow.func = some 10 by kernel_rfl).symm.trans hf) |>.symm
  obtain rfl : fn = Tryd.f10 := (Option.some.inj (Tryd.func10.symm.trans hfn)).symm
  refine ⟨by kernel_rfl, fun j t ht => ?_⟩
  rw [Tryd.params10] at ht
  have hm := Array.mem_of_getElem? ht
  have hc : t = 70 ∨ t = 25 ∨ t = 25 := by simpa using hm
  rcases hc with rfl | rfl | rfl
  · exact (show Tryd.prog.wantsStandIn 70 = false by kernel_rfl)
  · exact (show Tryd.prog.wantsStandIn 25 = false by kernel_rfl)
  · exact (show Tryd.prog.wantsStandIn 25 = false by kernel_rfl)
theorem proved : Rows.LayerBacksCardSaid :=
  Claim7.holds_tied_plain_at .later [] _ _ _ _ said (fun _ h => by cases h) (by kernel_rfl) (fun _ h => by cases h) layerBacks_row_tie rfl ⟨rfl, rfl⟩ (by kernel_rfl) rfl plain (by kernel_rfl)
#print axioms proved

end Go.Proofs.YtopckalgpeapnaaDoor.lawLayerBacks
