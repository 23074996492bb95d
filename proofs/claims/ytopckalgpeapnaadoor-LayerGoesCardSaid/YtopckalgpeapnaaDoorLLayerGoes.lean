/- LayerGoes: of any layer and any matrix, what is wrong, how wide it is and what comes are the document's: the law returns true, and the input reads as it did. No condition. -/
import Derived.Test.YtopckalgpeapnaaDoorCards
import Derived.Test.YtopckalgpeapnaaDoorTie
import Derived.Test.YtopckalgpeapnaaDoorUni
import Derived.Test.YtopckalgpeapnaaDoorRLay3
import Derived.Test.YtopckalgpeapnaaDoorLay6
import Derived.Test.YtopckalgpeapnaaDoorForms
import Derived.Deep.DeepHandedRow
set_option linter.unusedVariables false
set_option linter.unusedSimpArgs false
set_option linter.unusedSectionVars false
namespace Go.Proofs.YtopckalgpeapnaaDoor.lawLayerGoes
open Go.ChangeShapes Go.WideShapes Go.ChangeAt Go.RowKit Gal
set_option maxRecDepth 100000
set_option maxHeartbeats 8000000
section
variable (l : Lay) (x : Mat) (i : Int) (a a' a2 : Option Addr) (n n' n2 k k' k2 b b' b2 o o' o2 : Nat) (w : World) (x0 : IntsAt w a n k b o l.W.cells) (x1 : IntsAt w a' n' k' b' o' l.B.cells) (x2 : IntsAt w a2 n2 k2 b2 o2 x.cells) (hh : Handle w) (hi : -9223372036854775808 ≤ i ∧ i ≤ 9223372036854775807)
include x0 x1 x2 hh hi
theorem walk1 (hl : l.fault ≠ 0) :
    Calls Tryd.prog 9 #[.agg #[.int .i64 l.kind, .int .i64 l.W.rows, .int .i64 l.W.cols, .slice a n k, .int .i64 l.B.rows, .int .i64 l.B.cols, .slice a' n' k'], .agg #[.int .i64 x.rows, .int .i64 x.cols, .slice a2 n2 k2], .int .i64 i] w fun e w' => e = .returned (.bool true) ∧ Below w.heap.size w w'
  := by
  have hh' := hh
  have hx' := x0
  have HW : Hid (l.wideFault i = l.fault) := Lib.hid (if_pos hl)
  have HK : Hid (okOr (l.wideFault i) (l.wide i) = 0) := Lib.hid (okOr_bad (by rw [HW.out]; exact hl))
  have q1 : (l.fault == 0) = false := by simp [hl]
  clear hl
  go_enter Tryd.func9, Tryd.ntmps9
  go_wp2_with fail
  refine (refLayerFault_any l _ _ ⟨_, _, _, _, _, _, _, _, _, _, rfl, x0.alloc _ |>.alloc _, x1.alloc _ |>.alloc _⟩).mono ?_
  skip
  rintro e w1 ⟨rfl, hb1⟩
  have B0 := ((show Box _ w.heap.size [.int .i64 l.kind, .int .i64 l.W.rows, .int .i64 l.W.cols, .slice a n k, .int .i64 l.B.rows, .int .i64 l.B.cols, .slice a' n' k'] 70 from (by repeat (first | fail | (with_reducible refine (Box.new' _ w.heap.size _ _ ?_); (simp; done)) | (with_reducible refine Box.alloc ?_ _) | (with_reducible refine Box.drewN ?_ _) | (with_reducible refine Box.drew ?_) | (with_reducible refine Box.far ?_ ?_ _; rotate_left 1; (first | (dsimp only; omega) | omega | (simp; omega) | simp)))))).keep hb1
  have B0c := B0.cell
  have B0f := B0.thawed
  have B0z := B0.lt
  have B0k := lt_add B0z
  have B1 := ((show Box _ (w.heap.size + 1) [.int .i64 x.rows, .int .i64 x.cols, .slice a2 n2 k2] 25 from (by repeat (first | fail | (with_reducible refine (Box.new' _ (w.heap.size + 1) _ _ ?_); (simp; done)) | (with_reducible refine Box.alloc ?_ _) | (with_reducible refine Box.drewN ?_ _) | (with_reducible refine Box.drew ?_) | (with_reducible refine Box.far ?_ ?_ _; rotate_left 1; (first | (dsimp only; omega) | omega | (simp; omega) | simp)))))).keep hb1
  have B1c := B1.cell
  have B1f := B1.thawed
  have B1z := B1.lt
  have B1k := lt_add B1z
  have hkw1 : Below w.heap.size w w1 := (by repeat (first | fail | (with_reducible exact Below.refl _ _) | (with_reducible refine Below.al ?_ _) | (with_reducible refine Below.drN ?_ _) | (with_reducible refine Below.drew ?_) | (with_reducible refine Below.st ?_ ?_ _; rotate_left 1; (first | (dsimp only; omega) | omega | (simp; omega) | simp)) | (with_reducible refine Below.go ?_ hb1) | exact Below.refl _ _))
  replace x0 := x0.keep hkw1
  replace x1 := x1.keep hkw1
  replace x2 := x2.keep hkw1
  replace hh := hh.keep hkw1
  have hsw1 := hkw1.size
  go_wp2_with fail
  refine (layCheck_any l _ _ ⟨_, _, _, _, _, _, _, _, _, _, rfl, x0, x1⟩).mono ?_
  skip
  rintro e w2 ⟨rfl, hb2⟩
  have hkw2 : Below w1.heap.size w1 w2 := (by repeat (first | fail | (with_reducible exact Below.refl _ _) | (with_reducible refine Below.al ?_ _) | (with_reducible refine Below.drN ?_ _) | (with_reducible refine Below.drew ?_) | (with_reducible refine Below.st ?_ ?_ _; rotate_left 1; (first | (dsimp only; omega) | omega | (simp; omega) | simp)) | (with_reducible refine Below.go ?_ hb2) | exact Below.refl _ _))
  replace B0 := B0.keep hkw2
  replace B0c := B0.cell
  replace B0f := B0.thawed
  replace B0z := B0.lt
  replace B0k := lt_add B0z
  replace B1 := B1.keep hkw2
  replace B1c := B1.cell
  replace B1f := B1.thawed
  replace B1z := B1.lt
  replace B1k := lt_add B1z
  replace x0 := x0.keep hkw2
  replace x1 := x1.keep hkw2
  replace x2 := x2.keep hkw2
  replace hh := hh.keep hkw2
  have hsw2 := hkw2.size
  go_wp2_with fail
  refine (error_same l.fault _ hh).mono ?_
  rintro e w3 ⟨rfl, hb3⟩
  have hkw3 : Below w2.heap.size w2 w3 := (by repeat (first | fail | (with_reducible exact Below.refl _ _) | (with_reducible refine Below.al ?_ _) | (with_reducible refine Below.drN ?_ _) | (with_reducible refine Below.drew ?_) | (with_reducible refine Below.st ?_ ?_ _; rotate_left 1; (first | (dsimp only; omega) | omega | (simp; omega) | simp)) | (with_reducible refine Below.go ?_ hb3) | exact Below.refl _ _))
  replace B0 := B0.keep hkw3
  replace B0c := B0.cell
  replace B0f := B0.thawed
  replace B0z := B0.lt
  replace B0k := lt_add B0z
  replace B1 := B1.keep hkw3
  replace B1c := B1.cell
  replace B1f := B1.thawed
  replace B1z := B1.lt
  replace B1k := lt_add B1z
  replace x0 := x0.keep hkw3
  replace x1 := x1.keep hkw3
  replace x2 := x2.keep hkw3
  replace hh := hh.keep hkw3
  have hsw3 := hkw3.size
  go_wp2_with fail
  refine (layWide_any l i _ _ ⟨_, _, _, _, _, _, _, _, _, _, rfl, x0, x1⟩ hi).mono ?_
  rw [HK.out, HW.out]
  rintro e w4 ⟨rfl, hb4⟩
  have hkw4 : Below w3.heap.size w3 w4 := (by repeat (first | fail | (with_reducible exact Below.refl _ _) | (with_reducible refine Below.al ?_ _) | (with_reducible refine Below.drN ?_ _) | (with_reducible refine Below.drew ?_) | (with_reducible refine Below.st ?_ ?_ _; rotate_left 1; (first | (dsimp only; omega) | omega | (simp; omega) | simp)) | (with_reducible refine Below.go ?_ hb4) | exact Below.refl _ _))
  replace B0 := B0.keep hkw4
  replace B0c := B0.cell
  replace B0f := B0.thawed
  replace B0z := B0.lt
  replace B0k := lt_add B0z
  replace B1 := B1.keep hkw4
  replace B1c := B1.cell
  replace B1f := B1.thawed
  replace B1z := B1.lt
  replace B1k := lt_add B1z
  replace x0 := x0.keep hkw4
  replace x1 := x1.keep hkw4
  replace x2 := x2.keep hkw4
  replace hh := hh.keep hkw4
  have hsw4 := hkw4.size
  go_wp2_with fail
  refine (error_same l.fault _ hh).mono ?_
  rintro e w5 ⟨rfl, hb5⟩
  have hkw5 : Below w4.heap.size w4 w5 := (by repeat (first | fail | (with_reducible exact Below.refl _ _) | (with_reducible refine Below.al ?_ _) | (with_reducible refine Below.drN ?_ _) | (with_reducible refine Below.drew ?_) | (with_reducible refine Below.st ?_ ?_ _; rotate_left 1; (first | (dsimp only; omega) | omega | (simp; omega) | simp)) | (with_reducible refine Below.go ?_ hb5) | exact Below.refl _ _))
  replace B0 := B0.keep hkw5
  replace B0c := B0.cell
  replace B0f := B0.thawed
  replace B0z := B0.lt
  replace B0k := lt_add B0z
  replace B1 := B1.keep hkw5
  replace B1c := B1.cell
  replace B1f := B1.thawed
  replace B1z := B1.lt
  replace B1k := lt_add B1z
  replace x0 := x0.keep hkw5
  replace x1 := x1.keep hkw5
  replace x2 := x2.keep hkw5
  replace hh := hh.keep hkw5
  have hsw5 := hkw5.size
  have hz0 : Below w.heap.size w w5 := (by repeat (first | fail | (with_reducible exact Below.refl _ _) | (with_reducible refine Below.al ?_ _) | (with_reducible refine Below.drN ?_ _) | (with_reducible refine Below.drew ?_) | (with_reducible refine Below.st ?_ ?_ _; rotate_left 1; (first | (dsimp only; omega) | omega | (simp; omega) | simp)) | (with_reducible refine Below.go ?_ hb5) | (with_reducible refine Below.go ?_ hb4) | (with_reducible refine Below.go ?_ hb3) | (with_reducible refine Below.go ?_ hb2) | (with_reducible refine Below.go ?_ hb1) | exact Below.refl _ _))
  clear hh' hx'
  by_cases hG : l.goFault x = 0
  · have HG := Lib.hid hG
    have HGE := Lib.hid (show errV (l.goFault x) = .nilIface from errV_nil hG)
    clear hG
    go_wp2_with fail
    refine (layGo_any l x _ _ _ ⟨_, _, _, _, _, _, _, _, _, _, rfl, x0, x1⟩ (MatAt.mk x2)).mono ?_
    rw [HGE.out, orNone_ok HG.out]
    rintro e w21 ⟨v5, rfl, ⟨a5, n5, k5, b5, o5, rfl, hn5, x5⟩, hb21⟩
    have hkw21 : Below w5.heap.size w5 w21 := (by repeat (first | fail | (with_reducible exact Below.refl _ _) | (with_reducible refine Below.al ?_ _) | (with_reducible refine Below.drN ?_ _) | (with_reducible refine Below.drew ?_) | (with_reducible refine Below.st ?_ ?_ _; rotate_left 1; (first | (dsimp only; omega) | omega | (simp; omega) | simp)) | (with_reducible refine Below.go ?_ hb21) | exact Below.refl _ _))
    replace B0 := B0.keep hkw21
    replace B0c := B0.cell
    replace B0f := B0.thawed
    replace B0z := B0.lt
    replace B0k := lt_add B0z
    replace B1 := B1.keep hkw21
    replace B1c := B1.cell
    replace B1f := B1.thawed
    replace B1z := B1.lt
    replace B1k := lt_add B1z
    replace x0 := x0.keep hkw21
    replace x1 := x1.keep hkw21
    replace x2 := x2.keep hkw21
    replace hh := hh.keep hkw21
    have hsw21 := hkw21.size
    go_wp2_with fail
    refine (refGoFault_any l x _ _ _ ⟨_, _, _, _, _, _, _, _, _, _, rfl, x0.alloc _, x1.alloc _⟩ (MatAt.mk (x2.alloc _))).mono ?_
    rw [HG.out]
    rintro e w22 ⟨rfl, hb22⟩
    have B13 := (Box.new w21 [.int .i64 (l.go x).rows, .int .i64 (l.go x).cols, .slice a5 n5 k5] 25).keep hb22
    have B13c := B13.cell
    have B13f := B13.thawed
    have B13z := B13.lt
    have B13k := lt_add B13z
    have hkw22 : Below w21.heap.size w21 w22 := (by repeat (first | fail | (with_reducible exact Below.refl _ _) | (with_reducible refine Below.al ?_ _) | (with_reducible refine Below.drN ?_ _) | (with_reducible refine Below.drew ?_) | (with_reducible refine Below.st ?_ ?_ _; rotate_left 1; (first | (dsimp only; omega) | omega | (simp; omega) | simp)) | (with_reducible refine Below.go ?_ hb22) | exact Below.refl _ _))
    replace B0 := B0.keep hkw22
    replace B0c := B0.cell
    replace B0f := B0.thawed
    replace B0z := B0.lt
    replace B0k := lt_add B0z
    replace B1 := B1.keep hkw22
    replace B1c := B1.cell
    replace B1f := B1.thawed
    replace B1z := B1.lt
    replace B1k := lt_add B1z
    replace x0 := x0.keep hkw22
    replace x1 := x1.keep hkw22
    replace x2 := x2.keep hkw22
    replace x5 := x5.keep hkw22
    replace hh := hh.keep hkw22
    have hsw22 := hkw22.size
    have l5 : 0 < n5 → b5 < w22.heap.size := x5.lt
    go_wp2_with fail
    refine (refGoOf_any l x _ _ _ ⟨_, _, _, _, _, _, _, _, _, _, rfl, x0.alloc _, x1.alloc _⟩ (MatAt.mk (x2.alloc _)) HG.out).mono ?_
    rintro e w23 ⟨v6, rfl, ⟨a6, n6, k6, b6, o6, rfl, hn6, x6⟩, hb23⟩
    have B14 := (Box.new w22 [.int .i64 0, .int .i64 0, .slice none 0 0] 25).keep hb23
    have B14c := B14.cell
    have B14f := B14.thawed
    have B14z := B14.lt
    have B14k := lt_add B14z
    have hkw23 : Below w22.heap.size w22 w23 := (by repeat (first | fail | (with_reducible exact Below.refl _ _) | (with_reducible refine Below.al ?_ _) | (with_reducible refine Below.drN ?_ _) | (with_reducible refine Below.drew ?_) | (with_reducible refine Below.st ?_ ?_ _; rotate_left 1; (first | (dsimp only; omega) | omega | (simp; omega) | simp)) | (with_reducible refine Below.go ?_ hb23) | exact Below.refl _ _))
    replace B13 := B13.keep hkw23
    replace B13c := B13.cell
    replace B13f := B13.thawed
    replace B13z := B13.lt
    replace B13k := lt_add B13z
    replace x5 := x5.keep hkw23
    replace hh := hh.keep hkw23
    have hsw23 := hkw23.size
    have l6 : 0 < n6 → w22.heap.size < b6 := fun h => by have := hn6 h; simp at this; omega
    have l13 : w21.heap.size < w22.heap.size := by have := hb22.size; simp at this; omega
    have hgl := hh.lt
    have hgw : 0 < w22.heap.size := by omega
    have hh' : Handle (((w23.setCell ⟨w22.heap.size, 0, none⟩ (.int .i64 (l.go x).rows)).setCell ⟨w22.heap.size, 1, none⟩ (.int .i64 (l.go x).cols)).setCell ⟨w22.heap.size, 2, none⟩ (.slice a6 n6 k6)) :=
      hh.farS (S := (· = w22.heap.size)) ((((Far.refl (· = w22.heap.size) w23).st (a := ⟨w22.heap.size, 0, none⟩) (fun _ => rfl) _).st (a := ⟨w22.heap.size, 1, none⟩) (fun _ => rfl) _).st (a := ⟨w22.heap.size, 2, none⟩) (fun _ => rfl) _) (by omega)
    go_wp2_with fail
    refine (error_same 0 _ hh').mono ?_
    rintro e w24 ⟨rfl, hb24⟩
    have y5 : IntsAt w24 a5 n5 k5 b5 o5 (l.go x).cells := IntsAt.keep (by repeat (first | fail | (with_reducible exact x5) | (with_reducible refine IntsAt.alloc ?_ _) | (with_reducible refine IntsAt.drewN ?_ _) | (with_reducible refine IntsAt.drew ?_) | (with_reducible refine IntsAt.set ?_ ?_ _; rotate_left 1; (intro h0; have hq0 := l5 h0; first | (dsimp only; omega) | omega | (simp; omega) | simp)) | exact x5)) hb24
    have y6 : IntsAt w24 a6 n6 k6 b6 o6 (l.go x).cells := IntsAt.keep (by repeat (first | fail | (with_reducible exact x6) | (with_reducible refine IntsAt.alloc ?_ _) | (with_reducible refine IntsAt.drewN ?_ _) | (with_reducible refine IntsAt.drew ?_) | (with_reducible refine IntsAt.set ?_ ?_ _; rotate_left 1; (intro h0; have hq0 := l6 h0; first | (dsimp only; omega) | omega | (simp; omega) | simp)) | exact x6)) hb24
    have C13 : Box w24 w21.heap.size [.int .i64 (l.go x).rows, .int .i64 (l.go x).cols, .slice a5 n5 k5] 25 := Box.keep (by repeat (first | fail | (with_reducible exact B13) | (with_reducible refine Box.alloc ?_ _) | (with_reducible refine Box.drewN ?_ _) | (with_reducible refine Box.drew ?_) | (with_reducible refine Box.far ?_ ?_ _; rotate_left 1; (first | (dsimp only; omega) | omega | (simp; omega) | simp)) | exact B13)) hb24
    have C14 : Box w24 w22.heap.size [.int .i64 (l.go x).rows, .int .i64 (l.go x).cols, .slice a6 n6 k6] 25 := (((B14.set 0 _).set 1 _).set 2 _).keep hb24
    have C13c := C13.cell
    have C14c := C14.cell
    clear B13 B13c B13f B13z B13k B14 B14c B14f B14z B14k
    go_wp2_with fail
    refine (matrices_same (l.go x) _ _ _ (MatAt.mk y5) (MatAt.mk y6)).mono ?_
    rintro e w25 ⟨rfl, hb25⟩
    go_wp2
    go_ret
    exact ⟨rfl, (by repeat (first | fail | (with_reducible exact Below.refl _ _) | (with_reducible exact hz0) | (with_reducible refine Below.al ?_ _) | (with_reducible refine Below.drN ?_ _) | (with_reducible refine Below.drew ?_) | (with_reducible refine Below.st ?_ ?_ _; rotate_left 1; (first | (dsimp only; omega) | omega | (simp; omega) | simp)) | (with_reducible refine Below.go ?_ hb25) | (with_reducible refine Below.go ?_ hb24) | (with_reducible refine Below.go ?_ hb23) | (with_reducible refine Below.go ?_ hb22) | (with_reducible refine Below.go ?_ hb21) | exact Below.refl _ _ | exact hz0))⟩
  · have qg : (l.goFault x == 0) = false := by simp [hG]
    have HG := Lib.hid hG
    clear hG
    go_wp2_with fail
    refine (layGo_any l x _ _ _ ⟨_, _, _, _, _, _, _, _, _, _, rfl, x0, x1⟩ (MatAt.mk x2)).mono ?_
    rw [orNone_bad HG.out]
    rintro e w21 ⟨v5, rfl, ⟨a5, n5, k5, b5, o5, rfl, hn5, x5⟩, hb21⟩
    have hkw21 : Below w5.heap.size w5 w21 := (by repeat (first | fail | (with_reducible exact Below.refl _ _) | (with_reducible refine Below.al ?_ _) | (with_reducible refine Below.drN ?_ _) | (with_reducible refine Below.drew ?_) | (with_reducible refine Below.st ?_ ?_ _; rotate_left 1; (first | (dsimp only; omega) | omega | (simp; omega) | simp)) | (with_reducible refine Below.go ?_ hb21) | exact Below.refl _ _))
    replace B0 := B0.keep hkw21
    replace B0c := B0.cell
    replace B0f := B0.thawed
    replace B0z := B0.lt
    replace B0k := lt_add B0z
    replace B1 := B1.keep hkw21
    replace B1c := B1.cell
    replace B1f := B1.thawed
    replace B1z := B1.lt
    replace B1k := lt_add B1z
    replace x0 := x0.keep hkw21
    replace x1 := x1.keep hkw21
    replace x2 := x2.keep hkw21
    replace hh := hh.keep hkw21
    have hsw21 := hkw21.size
    go_wp2_with fail
    refine (refGoFault_any l x _ _ _ ⟨_, _, _, _, _, _, _, _, _, _, rfl, x0.alloc _, x1.alloc _⟩ (MatAt.mk (x2.alloc _))).mono ?_
    rintro e w22 ⟨rfl, hb22⟩
    have B13 := (Box.new w21 [.int .i64 0, .int .i64 0, .slice a5 n5 k5] 25).keep hb22
    have B13c := B13.cell
    have B13f := B13.thawed
    have B13z := B13.lt
    have B13k := lt_add B13z
    have hkw22 : Below w21.heap.size w21 w22 := (by repeat (first | fail | (with_reducible exact Below.refl _ _) | (with_reducible refine Below.al ?_ _) | (with_reducible refine Below.drN ?_ _) | (with_reducible refine Below.drew ?_) | (with_reducible refine Below.st ?_ ?_ _; rotate_left 1; (first | (dsimp only; omega) | omega | (simp; omega) | simp)) | (with_reducible refine Below.go ?_ hb22) | exact Below.refl _ _))
    replace x5 := x5.keep hkw22
    replace hh := hh.keep hkw22
    have hsw22 := hkw22.size
    go_wp2_with fail
    refine (error_same _ _ (hh.alloc _)).mono ?_
    rintro e w23 ⟨rfl, hb23⟩
    have B14 := (Box.new w22 [.int .i64 0, .int .i64 0, .slice none 0 0] 25).keep hb23
    have B14c := B14.cell
    have B14f := B14.thawed
    have B14z := B14.lt
    have B14k := lt_add B14z
    have hkw23 : Below w22.heap.size w22 w23 := (by repeat (first | fail | (with_reducible exact Below.refl _ _) | (with_reducible refine Below.al ?_ _) | (with_reducible refine Below.drN ?_ _) | (with_reducible refine Below.drew ?_) | (with_reducible refine Below.st ?_ ?_ _; rotate_left 1; (first | (dsimp only; omega) | omega | (simp; omega) | simp)) | (with_reducible refine Below.go ?_ hb23) | exact Below.refl _ _))
    replace B13 := B13.keep hkw23
    replace B13c := B13.cell
    replace B13f := B13.thawed
    replace B13z := B13.lt
    replace B13k := lt_add B13z
    replace x5 := x5.keep hkw23
    replace hh := hh.keep hkw23
    have hsw23 := hkw23.size
    go_wp2_with fail
    refine (matrices_same Mat.none _ _ _ (MatAt.mk x5) (none_at _)).mono ?_
    rintro e w24 ⟨rfl, hb24⟩
    go_wp2
    go_ret
    exact ⟨rfl, (by repeat (first | fail | (with_reducible exact Below.refl _ _) | (with_reducible exact hz0) | (with_reducible refine Below.al ?_ _) | (with_reducible refine Below.drN ?_ _) | (with_reducible refine Below.drew ?_) | (with_reducible refine Below.st ?_ ?_ _; rotate_left 1; (first | (dsimp only; omega) | omega | (simp; omega) | simp)) | (with_reducible refine Below.go ?_ hb24) | (with_reducible refine Below.go ?_ hb23) | (with_reducible refine Below.go ?_ hb22) | (with_reducible refine Below.go ?_ hb21) | exact Below.refl _ _ | exact hz0))⟩
theorem walk2 (hl : l.fault = 0) (h1 : i < 0 ∨ 12 < i) :
    Calls Tryd.prog 9 #[.agg #[.int .i64 l.kind, .int .i64 l.W.rows, .int .i64 l.W.cols, .slice a n k, .int .i64 l.B.rows, .int .i64 l.B.cols, .slice a' n' k'], .agg #[.int .i64 x.rows, .int .i64 x.cols, .slice a2 n2 k2], .int .i64 i] w fun e w' => e = .returned (.bool true) ∧ Below w.heap.size w w'
  := by
  have hh' := hh
  have hx' := x0
  have HL := Lib.hid hl
  have HLE := Lib.hid (show errV l.fault = .nilIface from errV_nil hl)
  have hw : l.wideFault i = 1 := by unfold Lay.wideFault; rw [if_neg (by simp [hl]), if_pos h1]
  have HW := Lib.hid hw
  have HK : Hid (okOr (l.wideFault i) (l.wide i) = 0) := Lib.hid (okOr_bad (by rw [hw]; decide))
  clear hl hw
  rcases h1 with h1 | h1
  · skip
    go_enter Tryd.func9, Tryd.ntmps9
    go_wp2_with fail
    refine (refLayerFault_any l _ _ ⟨_, _, _, _, _, _, _, _, _, _, rfl, x0.alloc _ |>.alloc _, x1.alloc _ |>.alloc _⟩).mono ?_
    rw [HL.out]
    rintro e w1 ⟨rfl, hb1⟩
    have B0 := ((show Box _ w.heap.size [.int .i64 l.kind, .int .i64 l.W.rows, .int .i64 l.W.cols, .slice a n k, .int .i64 l.B.rows, .int .i64 l.B.cols, .slice a' n' k'] 70 from (by repeat (first | fail | (with_reducible refine (Box.new' _ w.heap.size _ _ ?_); (simp; done)) | (with_reducible refine Box.alloc ?_ _) | (with_reducible refine Box.drewN ?_ _) | (with_reducible refine Box.drew ?_) | (with_reducible refine Box.far ?_ ?_ _; rotate_left 1; (first | (dsimp only; omega) | omega | (simp; omega) | simp)))))).keep hb1
    have B0c := B0.cell
    have B0f := B0.thawed
    have B0z := B0.lt
    have B0k := lt_add B0z
    have B1 := ((show Box _ (w.heap.size + 1) [.int .i64 x.rows, .int .i64 x.cols, .slice a2 n2 k2] 25 from (by repeat (first | fail | (with_reducible refine (Box.new' _ (w.heap.size + 1) _ _ ?_); (simp; done)) | (with_reducible refine Box.alloc ?_ _) | (with_reducible refine Box.drewN ?_ _) | (with_reducible refine Box.drew ?_) | (with_reducible refine Box.far ?_ ?_ _; rotate_left 1; (first | (dsimp only; omega) | omega | (simp; omega) | simp)))))).keep hb1
    have B1c := B1.cell
    have B1f := B1.thawed
    have B1z := B1.lt
    have B1k := lt_add B1z
    have hkw1 : Below w.heap.size w w1 := (by repeat (first | fail | (with_reducible exact Below.refl _ _) | (with_reducible refine Below.al ?_ _) | (with_reducible refine Below.drN ?_ _) | (with_reducible refine Below.drew ?_) | (with_reducible refine Below.st ?_ ?_ _; rotate_left 1; (first | (dsimp only; omega) | omega | (simp; omega) | simp)) | (with_reducible refine Below.go ?_ hb1) | exact Below.refl _ _))
    replace x0 := x0.keep hkw1
    replace x1 := x1.keep hkw1
    replace x2 := x2.keep hkw1
    replace hh := hh.keep hkw1
    have hsw1 := hkw1.size
    go_wp2_with fail
    refine (layCheck_any l _ _ ⟨_, _, _, _, _, _, _, _, _, _, rfl, x0, x1⟩).mono ?_
    rw [HLE.out]
    rintro e w2 ⟨rfl, hb2⟩
    have hkw2 : Below w1.heap.size w1 w2 := (by repeat (first | fail | (with_reducible exact Below.refl _ _) | (with_reducible refine Below.al ?_ _) | (with_reducible refine Below.drN ?_ _) | (with_reducible refine Below.drew ?_) | (with_reducible refine Below.st ?_ ?_ _; rotate_left 1; (first | (dsimp only; omega) | omega | (simp; omega) | simp)) | (with_reducible refine Below.go ?_ hb2) | exact Below.refl _ _))
    replace B0 := B0.keep hkw2
    replace B0c := B0.cell
    replace B0f := B0.thawed
    replace B0z := B0.lt
    replace B0k := lt_add B0z
    replace B1 := B1.keep hkw2
    replace B1c := B1.cell
    replace B1f := B1.thawed
    replace B1z := B1.lt
    replace B1k := lt_add B1z
    replace x0 := x0.keep hkw2
    replace x1 := x1.keep hkw2
    replace x2 := x2.keep hkw2
    replace hh := hh.keep hkw2
    have hsw2 := hkw2.size
    go_wp2_with fail
    refine (error_same 0 _ hh).mono ?_
    rintro e w3 ⟨rfl, hb3⟩
    have hkw3 : Below w2.heap.size w2 w3 := (by repeat (first | fail | (with_reducible exact Below.refl _ _) | (with_reducible refine Below.al ?_ _) | (with_reducible refine Below.drN ?_ _) | (with_reducible refine Below.drew ?_) | (with_reducible refine Below.st ?_ ?_ _; rotate_left 1; (first | (dsimp only; omega) | omega | (simp; omega) | simp)) | (with_reducible refine Below.go ?_ hb3) | exact Below.refl _ _))
    replace B0 := B0.keep hkw3
    replace B0c := B0.cell
    replace B0f := B0.thawed
    replace B0z := B0.lt
    replace B0k := lt_add B0z
    replace B1 := B1.keep hkw3
    replace B1c := B1.cell
    replace B1f := B1.thawed
    replace B1z := B1.lt
    replace B1k := lt_add B1z
    replace x0 := x0.keep hkw3
    replace x1 := x1.keep hkw3
    replace x2 := x2.keep hkw3
    replace hh := hh.keep hkw3
    have hsw3 := hkw3.size
    go_wp2_with fail
    refine (layWide_any l i _ _ ⟨_, _, _, _, _, _, _, _, _, _, rfl, x0, x1⟩ hi).mono ?_
    rw [HK.out, HW.out]
    rintro e w4 ⟨rfl, hb4⟩
    have hkw4 : Below w3.heap.size w3 w4 := (by repeat (first | fail | (with_reducible exact Below.refl _ _) | (with_reducible refine Below.al ?_ _) | (with_reducible refine Below.drN ?_ _) | (with_reducible refine Below.drew ?_) | (with_reducible refine Below.st ?_ ?_ _; rotate_left 1; (first | (dsimp only; omega) | omega | (simp; omega) | simp)) | (with_reducible refine Below.go ?_ hb4) | exact Below.refl _ _))
    replace B0 := B0.keep hkw4
    replace B0c := B0.cell
    replace B0f := B0.thawed
    replace B0z := B0.lt
    replace B0k := lt_add B0z
    replace B1 := B1.keep hkw4
    replace B1c := B1.cell
    replace B1f := B1.thawed
    replace B1z := B1.lt
    replace B1k := lt_add B1z
    replace x0 := x0.keep hkw4
    replace x1 := x1.keep hkw4
    replace x2 := x2.keep hkw4
    replace hh := hh.keep hkw4
    have hsw4 := hkw4.size
    go_wp2_with fail
    refine (error_same 1 _ hh).mono ?_
    rintro e w5 ⟨rfl, hb5⟩
    have hkw5 : Below w4.heap.size w4 w5 := (by repeat (first | fail | (with_reducible exact Below.refl _ _) | (with_reducible refine Below.al ?_ _) | (with_reducible refine Below.drN ?_ _) | (with_reducible refine Below.drew ?_) | (with_reducible refine Below.st ?_ ?_ _; rotate_left 1; (first | (dsimp only; omega) | omega | (simp; omega) | simp)) | (with_reducible refine Below.go ?_ hb5) | exact Below.refl _ _))
    replace B0 := B0.keep hkw5
    replace B0c := B0.cell
    replace B0f := B0.thawed
    replace B0z := B0.lt
    replace B0k := lt_add B0z
    replace B1 := B1.keep hkw5
    replace B1c := B1.cell
    replace B1f := B1.thawed
    replace B1z := B1.lt
    replace B1k := lt_add B1z
    replace x0 := x0.keep hkw5
    replace x1 := x1.keep hkw5
    replace x2 := x2.keep hkw5
    replace hh := hh.keep hkw5
    have hsw5 := hkw5.size
    have hz0 : Below w.heap.size w w5 := (by repeat (first | fail | (with_reducible exact Below.refl _ _) | (with_reducible refine Below.al ?_ _) | (with_reducible refine Below.drN ?_ _) | (with_reducible refine Below.drew ?_) | (with_reducible refine Below.st ?_ ?_ _; rotate_left 1; (first | (dsimp only; omega) | omega | (simp; omega) | simp)) | (with_reducible refine Below.go ?_ hb5) | (with_reducible refine Below.go ?_ hb4) | (with_reducible refine Below.go ?_ hb3) | (with_reducible refine Below.go ?_ hb2) | (with_reducible refine Below.go ?_ hb1) | exact Below.refl _ _))
    clear hh' hx'
    by_cases hG : l.goFault x = 0
    · have HG := Lib.hid hG
      have HGE := Lib.hid (show errV (l.goFault x) = .nilIface from errV_nil hG)
      clear hG
      go_wp2_with fail
      refine (layGo_any l x _ _ _ ⟨_, _, _, _, _, _, _, _, _, _, rfl, x0, x1⟩ (MatAt.mk x2)).mono ?_
      rw [HGE.out, orNone_ok HG.out]
      rintro e w21 ⟨v5, rfl, ⟨a5, n5, k5, b5, o5, rfl, hn5, x5⟩, hb21⟩
      have hkw21 : Below w5.heap.size w5 w21 := (by repeat (first | fail | (with_reducible exact Below.refl _ _) | (with_reducible refine Below.al ?_ _) | (with_reducible refine Below.drN ?_ _) | (with_reducible refine Below.drew ?_) | (with_reducible refine Below.st ?_ ?_ _; rotate_left 1; (first | (dsimp only; omega) | omega | (simp; omega) | simp)) | (with_reducible refine Below.go ?_ hb21) | exact Below.refl _ _))
      replace B0 := B0.keep hkw21
      replace B0c := B0.cell
      replace B0f := B0.thawed
      replace B0z := B0.lt
      replace B0k := lt_add B0z
      replace B1 := B1.keep hkw21
      replace B1c := B1.cell
      replace B1f := B1.thawed
      replace B1z := B1.lt
      replace B1k := lt_add B1z
      replace x0 := x0.keep hkw21
      replace x1 := x1.keep hkw21
      replace x2 := x2.keep hkw21
      replace hh := hh.keep hkw21
      have hsw21 := hkw21.size
      go_wp2_with fail
      refine (refGoFault_any l x _ _ _ ⟨_, _, _, _, _, _, _, _, _, _, rfl, x0.alloc _, x1.alloc _⟩ (MatAt.mk (x2.alloc _))).mono ?_
      rw [HG.out]
      rintro e w22 ⟨rfl, hb22⟩
      have B13 := (Box.new w21 [.int .i64 (l.go x).rows, .int .i64 (l.go x).cols, .slice a5 n5 k5] 25).keep hb22
      have B13c := B13.cell
      have B13f := B13.thawed
      have B13z := B13.lt
      have B13k := lt_add B13z
      have hkw22 : Below w21.heap.size w21 w22 := (by repeat (first | fail | (with_reducible exact Below.refl _ _) | (with_reducible refine Below.al ?_ _) | (with_reducible refine Below.drN ?_ _) | (with_reducible refine Below.drew ?_) | (with_reducible refine Below.st ?_ ?_ _; rotate_left 1; (first | (dsimp only; omega) | omega | (simp; omega) | simp)) | (with_reducible refine Below.go ?_ hb22) | exact Below.refl _ _))
      replace B0 := B0.keep hkw22
      replace B0c := B0.cell
      replace B0f := B0.thawed
      replace B0z := B0.lt
      replace B0k := lt_add B0z
      replace B1 := B1.keep hkw22
      replace B1c := B1.cell
      replace B1f := B1.thawed
      replace B1z := B1.lt
      replace B1k := lt_add B1z
      replace x0 := x0.keep hkw22
      replace x1 := x1.keep hkw22
      replace x2 := x2.keep hkw22
      replace x5 := x5.keep hkw22
      replace hh := hh.keep hkw22
      have hsw22 := hkw22.size
      have l5 : 0 < n5 → b5 < w22.heap.size := x5.lt
      go_wp2_with fail
      refine (refGoOf_any l x _ _ _ ⟨_, _, _, _, _, _, _, _, _, _, rfl, x0.alloc _, x1.alloc _⟩ (MatAt.mk (x2.alloc _)) HG.out).mono ?_
      rintro e w23 ⟨v6, rfl, ⟨a6, n6, k6, b6, o6, rfl, hn6, x6⟩, hb23⟩
      have B14 := (Box.new w22 [.int .i64 0, .int .i64 0, .slice none 0 0] 25).keep hb23
      have B14c := B14.cell
      have B14f := B14.thawed
      have B14z := B14.lt
      have B14k := lt_add B14z
      have hkw23 : Below w22.heap.size w22 w23 := (by repeat (first | fail | (with_reducible exact Below.refl _ _) | (with_reducible refine Below.al ?_ _) | (with_reducible refine Below.drN ?_ _) | (with_reducible refine Below.drew ?_) | (with_reducible refine Below.st ?_ ?_ _; rotate_left 1; (first | (dsimp only; omega) | omega | (simp; omega) | simp)) | (with_reducible refine Below.go ?_ hb23) | exact Below.refl _ _))
      replace B13 := B13.keep hkw23
      replace B13c := B13.cell
      replace B13f := B13.thawed
      replace B13z := B13.lt
      replace B13k := lt_add B13z
      replace x5 := x5.keep hkw23
      replace hh := hh.keep hkw23
      have hsw23 := hkw23.size
      have l6 : 0 < n6 → w22.heap.size < b6 := fun h => by have := hn6 h; simp at this; omega
      have l13 : w21.heap.size < w22.heap.size := by have := hb22.size; simp at this; omega
      have hgl := hh.lt
      have hgw : 0 < w22.heap.size := by omega
      have hh' : Handle (((w23.setCell ⟨w22.heap.size, 0, none⟩ (.int .i64 (l.go x).rows)).setCell ⟨w22.heap.size, 1, none⟩ (.int .i64 (l.go x).cols)).setCell ⟨w22.heap.size, 2, none⟩ (.slice a6 n6 k6)) :=
        hh.farS (S := (· = w22.heap.size)) ((((Far.refl (· = w22.heap.size) w23).st (a := ⟨w22.heap.size, 0, none⟩) (fun _ => rfl) _).st (a := ⟨w22.heap.size, 1, none⟩) (fun _ => rfl) _).st (a := ⟨w22.heap.size, 2, none⟩) (fun _ => rfl) _) (by omega)
      go_wp2_with fail
      refine (error_same 0 _ hh').mono ?_
      rintro e w24 ⟨rfl, hb24⟩
      have y5 : IntsAt w24 a5 n5 k5 b5 o5 (l.go x).cells := IntsAt.keep (by repeat (first | fail | (with_reducible exact x5) | (with_reducible refine IntsAt.alloc ?_ _) | (with_reducible refine IntsAt.drewN ?_ _) | (with_reducible refine IntsAt.drew ?_) | (with_reducible refine IntsAt.set ?_ ?_ _; rotate_left 1; (intro h0; have hq0 := l5 h0; first | (dsimp only; omega) | omega | (simp; omega) | simp)) | exact x5)) hb24
      have y6 : IntsAt w24 a6 n6 k6 b6 o6 (l.go x).cells := IntsAt.keep (by repeat (first | fail | (with_reducible exact x6) | (with_reducible refine IntsAt.alloc ?_ _) | (with_reducible refine IntsAt.drewN ?_ _) | (with_reducible refine IntsAt.drew ?_) | (with_reducible refine IntsAt.set ?_ ?_ _; rotate_left 1; (intro h0; have hq0 := l6 h0; first | (dsimp only; omega) | omega | (simp; omega) | simp)) | exact x6)) hb24
      have C13 : Box w24 w21.heap.size [.int .i64 (l.go x).rows, .int .i64 (l.go x).cols, .slice a5 n5 k5] 25 := Box.keep (by repeat (first | fail | (with_reducible exact B13) | (with_reducible refine Box.alloc ?_ _) | (with_reducible refine Box.drewN ?_ _) | (with_reducible refine Box.drew ?_) | (with_reducible refine Box.far ?_ ?_ _; rotate_left 1; (first | (dsimp only; omega) | omega | (simp; omega) | simp)) | exact B13)) hb24
      have C14 : Box w24 w22.heap.size [.int .i64 (l.go x).rows, .int .i64 (l.go x).cols, .slice a6 n6 k6] 25 := (((B14.set 0 _).set 1 _).set 2 _).keep hb24
      have C13c := C13.cell
      have C14c := C14.cell
      clear B13 B13c B13f B13z B13k B14 B14c B14f B14z B14k
      go_wp2_with fail
      refine (matrices_same (l.go x) _ _ _ (MatAt.mk y5) (MatAt.mk y6)).mono ?_
      rintro e w25 ⟨rfl, hb25⟩
      go_wp2
      go_ret
      exact ⟨rfl, (by repeat (first | fail | (with_reducible exact Below.refl _ _) | (with_reducible exact hz0) | (with_reducible refine Below.al ?_ _) | (with_reducible refine Below.drN ?_ _) | (with_reducible refine Below.drew ?_) | (with_reducible refine Below.st ?_ ?_ _; rotate_left 1; (first | (dsimp only; omega) | omega | (simp; omega) | simp)) | (with_reducible refine Below.go ?_ hb25) | (with_reducible refine Below.go ?_ hb24) | (with_reducible refine Below.go ?_ hb23) | (with_reducible refine Below.go ?_ hb22) | (with_reducible refine Below.go ?_ hb21) | exact Below.refl _ _ | exact hz0))⟩
    · have qg : (l.goFault x == 0) = false := by simp [hG]
      have HG := Lib.hid hG
      clear hG
      go_wp2_with fail
      refine (layGo_any l x _ _ _ ⟨_, _, _, _, _, _, _, _, _, _, rfl, x0, x1⟩ (MatAt.mk x2)).mono ?_
      rw [orNone_bad HG.out]
      rintro e w21 ⟨v5, rfl, ⟨a5, n5, k5, b5, o5, rfl, hn5, x5⟩, hb21⟩
      have hkw21 : Below w5.heap.size w5 w21 := (by repeat (first | fail | (with_reducible exact Below.refl _ _) | (with_reducible refine Below.al ?_ _) | (with_reducible refine Below.drN ?_ _) | (with_reducible refine Below.drew ?_) | (with_reducible refine Below.st ?_ ?_ _; rotate_left 1; (first | (dsimp only; omega) | omega | (simp; omega) | simp)) | (with_reducible refine Below.go ?_ hb21) | exact Below.refl _ _))
      replace B0 := B0.keep hkw21
      replace B0c := B0.cell
      replace B0f := B0.thawed
      replace B0z := B0.lt
      replace B0k := lt_add B0z
      replace B1 := B1.keep hkw21
      replace B1c := B1.cell
      replace B1f := B1.thawed
      replace B1z := B1.lt
      replace B1k := lt_add B1z
      replace x0 := x0.keep hkw21
      replace x1 := x1.keep hkw21
      replace x2 := x2.keep hkw21
      replace hh := hh.keep hkw21
      have hsw21 := hkw21.size
      go_wp2_with fail
      refine (refGoFault_any l x _ _ _ ⟨_, _, _, _, _, _, _, _, _, _, rfl, x0.alloc _, x1.alloc _⟩ (MatAt.mk (x2.alloc _))).mono ?_
      rintro e w22 ⟨rfl, hb22⟩
      have B13 := (Box.new w21 [.int .i64 0, .int .i64 0, .slice a5 n5 k5] 25).keep hb22
      have B13c := B13.cell
      have B13f := B13.thawed
      have B13z := B13.lt
      have B13k := lt_add B13z
      have hkw22 : Below w21.heap.size w21 w22 := (by repeat (first | fail | (with_reducible exact Below.refl _ _) | (with_reducible refine Below.al ?_ _) | (with_reducible refine Below.drN ?_ _) | (with_reducible refine Below.drew ?_) | (with_reducible refine Below.st ?_ ?_ _; rotate_left 1; (first | (dsimp only; omega) | omega | (simp; omega) | simp)) | (with_reducible refine Below.go ?_ hb22) | exact Below.refl _ _))
      replace x5 := x5.keep hkw22
      replace hh := hh.keep hkw22
      have hsw22 := hkw22.size
      go_wp2_with fail
      refine (error_same _ _ (hh.alloc _)).mono ?_
      rintro e w23 ⟨rfl, hb23⟩
      have B14 := (Box.new w22 [.int .i64 0, .int .i64 0, .slice none 0 0] 25).keep hb23
      have B14c := B14.cell
      have B14f := B14.thawed
      have B14z := B14.lt
      have B14k := lt_add B14z
      have hkw23 : Below w22.heap.size w22 w23 := (by repeat (first | fail | (with_reducible exact Below.refl _ _) | (with_reducible refine Below.al ?_ _) | (with_reducible refine Below.drN ?_ _) | (with_reducible refine Below.drew ?_) | (with_reducible refine Below.st ?_ ?_ _; rotate_left 1; (first | (dsimp only; omega) | omega | (simp; omega) | simp)) | (with_reducible refine Below.go ?_ hb23) | exact Below.refl _ _))
      replace B13 := B13.keep hkw23
      replace B13c := B13.cell
      replace B13f := B13.thawed
      replace B13z := B13.lt
      replace B13k := lt_add B13z
      replace x5 := x5.keep hkw23
      replace hh := hh.keep hkw23
      have hsw23 := hkw23.size
      go_wp2_with fail
      refine (matrices_same Mat.none _ _ _ (MatAt.mk x5) (none_at _)).mono ?_
      rintro e w24 ⟨rfl, hb24⟩
      go_wp2
      go_ret
      exact ⟨rfl, (by repeat (first | fail | (with_reducible exact Below.refl _ _) | (with_reducible exact hz0) | (with_reducible refine Below.al ?_ _) | (with_reducible refine Below.drN ?_ _) | (with_reducible refine Below.drew ?_) | (with_reducible refine Below.st ?_ ?_ _; rotate_left 1; (first | (dsimp only; omega) | omega | (simp; omega) | simp)) | (with_reducible refine Below.go ?_ hb24) | (with_reducible refine Below.go ?_ hb23) | (with_reducible refine Below.go ?_ hb22) | (with_reducible refine Below.go ?_ hb21) | exact Below.refl _ _ | exact hz0))⟩
  · skip
    go_enter Tryd.func9, Tryd.ntmps9
    go_wp2_with fail
    refine (refLayerFault_any l _ _ ⟨_, _, _, _, _, _, _, _, _, _, rfl, x0.alloc _ |>.alloc _, x1.alloc _ |>.alloc _⟩).mono ?_
    rw [HL.out]
    rintro e w1 ⟨rfl, hb1⟩
    have B0 := ((show Box _ w.heap.size [.int .i64 l.kind, .int .i64 l.W.rows, .int .i64 l.W.cols, .slice a n k, .int .i64 l.B.rows, .int .i64 l.B.cols, .slice a' n' k'] 70 from (by repeat (first | fail | (with_reducible refine (Box.new' _ w.heap.size _ _ ?_); (simp; done)) | (with_reducible refine Box.alloc ?_ _) | (with_reducible refine Box.drewN ?_ _) | (with_reducible refine Box.drew ?_) | (with_reducible refine Box.far ?_ ?_ _; rotate_left 1; (first | (dsimp only; omega) | omega | (simp; omega) | simp)))))).keep hb1
    have B0c := B0.cell
    have B0f := B0.thawed
    have B0z := B0.lt
    have B0k := lt_add B0z
    have B1 := ((show Box _ (w.heap.size + 1) [.int .i64 x.rows, .int .i64 x.cols, .slice a2 n2 k2] 25 from (by repeat (first | fail | (with_reducible refine (Box.new' _ (w.heap.size + 1) _ _ ?_); (simp; done)) | (with_reducible refine Box.alloc ?_ _) | (with_reducible refine Box.drewN ?_ _) | (with_reducible refine Box.drew ?_) | (with_reducible refine Box.far ?_ ?_ _; rotate_left 1; (first | (dsimp only; omega) | omega | (simp; omega) | simp)))))).keep hb1
    have B1c := B1.cell
    have B1f := B1.thawed
    have B1z := B1.lt
    have B1k := lt_add B1z
    have hkw1 : Below w.heap.size w w1 := (by repeat (first | fail | (with_reducible exact Below.refl _ _) | (with_reducible refine Below.al ?_ _) | (with_reducible refine Below.drN ?_ _) | (with_reducible refine Below.drew ?_) | (with_reducible refine Below.st ?_ ?_ _; rotate_left 1; (first | (dsimp only; omega) | omega | (simp; omega) | simp)) | (with_reducible refine Below.go ?_ hb1) | exact Below.refl _ _))
    replace x0 := x0.keep hkw1
    replace x1 := x1.keep hkw1
    replace x2 := x2.keep hkw1
    replace hh := hh.keep hkw1
    have hsw1 := hkw1.size
    go_wp2_with fail
    refine (layCheck_any l _ _ ⟨_, _, _, _, _, _, _, _, _, _, rfl, x0, x1⟩).mono ?_
    rw [HLE.out]
    rintro e w2 ⟨rfl, hb2⟩
    have hkw2 : Below w1.heap.size w1 w2 := (by repeat (first | fail | (with_reducible exact Below.refl _ _) | (with_reducible refine Below.al ?_ _) | (with_reducible refine Below.drN ?_ _) | (with_reducible refine Below.drew ?_) | (with_reducible refine Below.st ?_ ?_ _; rotate_left 1; (first | (dsimp only; omega) | omega | (simp; omega) | simp)) | (with_reducible refine Below.go ?_ hb2) | exact Below.refl _ _))
    replace B0 := B0.keep hkw2
    replace B0c := B0.cell
    replace B0f := B0.thawed
    replace B0z := B0.lt
    replace B0k := lt_add B0z
    replace B1 := B1.keep hkw2
    replace B1c := B1.cell
    replace B1f := B1.thawed
    replace B1z := B1.lt
    replace B1k := lt_add B1z
    replace x0 := x0.keep hkw2
    replace x1 := x1.keep hkw2
    replace x2 := x2.keep hkw2
    replace hh := hh.keep hkw2
    have hsw2 := hkw2.size
    go_wp2_with fail
    refine (error_same 0 _ hh).mono ?_
    rintro e w3 ⟨rfl, hb3⟩
    have hkw3 : Below w2.heap.size w2 w3 := (by repeat (first | fail | (with_reducible exact Below.refl _ _) | (with_reducible refine Below.al ?_ _) | (with_reducible refine Below.drN ?_ _) | (with_reducible refine Below.drew ?_) | (with_reducible refine Below.st ?_ ?_ _; rotate_left 1; (first | (dsimp only; omega) | omega | (simp; omega) | simp)) | (with_reducible refine Below.go ?_ hb3) | exact Below.refl _ _))
    replace B0 := B0.keep hkw3
    replace B0c := B0.cell
    replace B0f := B0.thawed
    replace B0z := B0.lt
    replace B0k := lt_add B0z
    replace B1 := B1.keep hkw3
    replace B1c := B1.cell
    replace B1f := B1.thawed
    replace B1z := B1.lt
    replace B1k := lt_add B1z
    replace x0 := x0.keep hkw3
    replace x1 := x1.keep hkw3
    replace x2 := x2.keep hkw3
    replace hh := hh.keep hkw3
    have hsw3 := hkw3.size
    go_wp2_with fail
    refine (layWide_any l i _ _ ⟨_, _, _, _, _, _, _, _, _, _, rfl, x0, x1⟩ hi).mono ?_
    rw [HK.out, HW.out]
    rintro e w4 ⟨rfl, hb4⟩
    have hkw4 : Below w3.heap.size w3 w4 := (by repeat (first | fail | (with_reducible exact Below.refl _ _) | (with_reducible refine Below.al ?_ _) | (with_reducible refine Below.drN ?_ _) | (with_reducible refine Below.drew ?_) | (with_reducible refine Below.st ?_ ?_ _; rotate_left 1; (first | (dsimp only; omega) | omega | (simp; omega) | simp)) | (with_reducible refine Below.go ?_ hb4) | exact Below.refl _ _))
    replace B0 := B0.keep hkw4
    replace B0c := B0.cell
    replace B0f := B0.thawed
    replace B0z := B0.lt
    replace B0k := lt_add B0z
    replace B1 := B1.keep hkw4
    replace B1c := B1.cell
    replace B1f := B1.thawed
    replace B1z := B1.lt
    replace B1k := lt_add B1z
    replace x0 := x0.keep hkw4
    replace x1 := x1.keep hkw4
    replace x2 := x2.keep hkw4
    replace hh := hh.keep hkw4
    have hsw4 := hkw4.size
    go_wp2_with fail
    refine (error_same 1 _ hh).mono ?_
    rintro e w5 ⟨rfl, hb5⟩
    have hkw5 : Below w4.heap.size w4 w5 := (by repeat (first | fail | (with_reducible exact Below.refl _ _) | (with_reducible refine Below.al ?_ _) | (with_reducible refine Below.drN ?_ _) | (with_reducible refine Below.drew ?_) | (with_reducible refine Below.st ?_ ?_ _; rotate_left 1; (first | (dsimp only; omega) | omega | (simp; omega) | simp)) | (with_reducible refine Below.go ?_ hb5) | exact Below.refl _ _))
    replace B0 := B0.keep hkw5
    replace B0c := B0.cell
    replace B0f := B0.thawed
    replace B0z := B0.lt
    replace B0k := lt_add B0z
    replace B1 := B1.keep hkw5
    replace B1c := B1.cell
    replace B1f := B1.thawed
    replace B1z := B1.lt
    replace B1k := lt_add B1z
    replace x0 := x0.keep hkw5
    replace x1 := x1.keep hkw5
    replace x2 := x2.keep hkw5
    replace hh := hh.keep hkw5
    have hsw5 := hkw5.size
    have hz0 : Below w.heap.size w w5 := (by repeat (first | fail | (with_reducible exact Below.refl _ _) | (with_reducible refine Below.al ?_ _) | (with_reducible refine Below.drN ?_ _) | (with_reducible refine Below.drew ?_) | (with_reducible refine Below.st ?_ ?_ _; rotate_left 1; (first | (dsimp only; omega) | omega | (simp; omega) | simp)) | (with_reducible refine Below.go ?_ hb5) | (with_reducible refine Below.go ?_ hb4) | (with_reducible refine Below.go ?_ hb3) | (with_reducible refine Below.go ?_ hb2) | (with_reducible refine Below.go ?_ hb1) | exact Below.refl _ _))
    clear hh' hx'
    by_cases hG : l.goFault x = 0
    · have HG := Lib.hid hG
      have HGE := Lib.hid (show errV (l.goFault x) = .nilIface from errV_nil hG)
      clear hG
      go_wp2_with fail
      refine (layGo_any l x _ _ _ ⟨_, _, _, _, _, _, _, _, _, _, rfl, x0, x1⟩ (MatAt.mk x2)).mono ?_
      rw [HGE.out, orNone_ok HG.out]
      rintro e w21 ⟨v5, rfl, ⟨a5, n5, k5, b5, o5, rfl, hn5, x5⟩, hb21⟩
      have hkw21 : Below w5.heap.size w5 w21 := (by repeat (first | fail | (with_reducible exact Below.refl _ _) | (with_reducible refine Below.al ?_ _) | (with_reducible refine Below.drN ?_ _) | (with_reducible refine Below.drew ?_) | (with_reducible refine Below.st ?_ ?_ _; rotate_left 1; (first | (dsimp only; omega) | omega | (simp; omega) | simp)) | (with_reducible refine Below.go ?_ hb21) | exact Below.refl _ _))
      replace B0 := B0.keep hkw21
      replace B0c := B0.cell
      replace B0f := B0.thawed
      replace B0z := B0.lt
      replace B0k := lt_add B0z
      replace B1 := B1.keep hkw21
      replace B1c := B1.cell
      replace B1f := B1.thawed
      replace B1z := B1.lt
      replace B1k := lt_add B1z
      replace x0 := x0.keep hkw21
      replace x1 := x1.keep hkw21
      replace x2 := x2.keep hkw21
      replace hh := hh.keep hkw21
      have hsw21 := hkw21.size
      go_wp2_with fail
      refine (refGoFault_any l x _ _ _ ⟨_, _, _, _, _, _, _, _, _, _, rfl, x0.alloc _, x1.alloc _⟩ (MatAt.mk (x2.alloc _))).mono ?_
      rw [HG.out]
      rintro e w22 ⟨rfl, hb22⟩
      have B13 := (Box.new w21 [.int .i64 (l.go x).rows, .int .i64 (l.go x).cols, .slice a5 n5 k5] 25).keep hb22
      have B13c := B13.cell
      have B13f := B13.thawed
      have B13z := B13.lt
      have B13k := lt_add B13z
      have hkw22 : Below w21.heap.size w21 w22 := (by repeat (first | fail | (with_reducible exact Below.refl _ _) | (with_reducible refine Below.al ?_ _) | (with_reducible refine Below.drN ?_ _) | (with_reducible refine Below.drew ?_) | (with_reducible refine Below.st ?_ ?_ _; rotate_left 1; (first | (dsimp only; omega) | omega | (simp; omega) | simp)) | (with_reducible refine Below.go ?_ hb22) | exact Below.refl _ _))
      replace B0 := B0.keep hkw22
      replace B0c := B0.cell
      replace B0f := B0.thawed
      replace B0z := B0.lt
      replace B0k := lt_add B0z
      replace B1 := B1.keep hkw22
      replace B1c := B1.cell
      replace B1f := B1.thawed
      replace B1z := B1.lt
      replace B1k := lt_add B1z
      replace x0 := x0.keep hkw22
      replace x1 := x1.keep hkw22
      replace x2 := x2.keep hkw22
      replace x5 := x5.keep hkw22
      replace hh := hh.keep hkw22
      have hsw22 := hkw22.size
      have l5 : 0 < n5 → b5 < w22.heap.size := x5.lt
      go_wp2_with fail
      refine (refGoOf_any l x _ _ _ ⟨_, _, _, _, _, _, _, _, _, _, rfl, x0.alloc _, x1.alloc _⟩ (MatAt.mk (x2.alloc _)) HG.out).mono ?_
      rintro e w23 ⟨v6, rfl, ⟨a6, n6, k6, b6, o6, rfl, hn6, x6⟩, hb23⟩
      have B14 := (Box.new w22 [.int .i64 0, .int .i64 0, .slice none 0 0] 25).keep hb23
      have B14c := B14.cell
      have B14f := B14.thawed
      have B14z := B14.lt
      have B14k := lt_add B14z
      have hkw23 : Below w22.heap.size w22 w23 := (by repeat (first | fail | (with_reducible exact Below.refl _ _) | (with_reducible refine Below.al ?_ _) | (with_reducible refine Below.drN ?_ _) | (with_reducible refine Below.drew ?_) | (with_reducible refine Below.st ?_ ?_ _; rotate_left 1; (first | (dsimp only; omega) | omega | (simp; omega) | simp)) | (with_reducible refine Below.go ?_ hb23) | exact Below.refl _ _))
      replace B13 := B13.keep hkw23
      replace B13c := B13.cell
      replace B13f := B13.thawed
      replace B13z := B13.lt
      replace B13k := lt_add B13z
      replace x5 := x5.keep hkw23
      replace hh := hh.keep hkw23
      have hsw23 := hkw23.size
      have l6 : 0 < n6 → w22.heap.size < b6 := fun h => by have := hn6 h; simp at this; omega
      have l13 : w21.heap.size < w22.heap.size := by have := hb22.size; simp at this; omega
      have hgl := hh.lt
      have hgw : 0 < w22.heap.size := by omega
      have hh' : Handle (((w23.setCell ⟨w22.heap.size, 0, none⟩ (.int .i64 (l.go x).rows)).setCell ⟨w22.heap.size, 1, none⟩ (.int .i64 (l.go x).cols)).setCell ⟨w22.heap.size, 2, none⟩ (.slice a6 n6 k6)) :=
        hh.farS (S := (· = w22.heap.size)) ((((Far.refl (· = w22.heap.size) w23).st (a := ⟨w22.heap.size, 0, none⟩) (fun _ => rfl) _).st (a := ⟨w22.heap.size, 1, none⟩) (fun _ => rfl) _).st (a := ⟨w22.heap.size, 2, none⟩) (fun _ => rfl) _) (by omega)
      go_wp2_with fail
      refine (error_same 0 _ hh').mono ?_
      rintro e w24 ⟨rfl, hb24⟩
      have y5 : IntsAt w24 a5 n5 k5 b5 o5 (l.go x).cells := IntsAt.keep (by repeat (first | fail | (with_reducible exact x5) | (with_reducible refine IntsAt.alloc ?_ _) | (with_reducible refine IntsAt.drewN ?_ _) | (with_reducible refine IntsAt.drew ?_) | (with_reducible refine IntsAt.set ?_ ?_ _; rotate_left 1; (intro h0; have hq0 := l5 h0; first | (dsimp only; omega) | omega | (simp; omega) | simp)) | exact x5)) hb24
      have y6 : IntsAt w24 a6 n6 k6 b6 o6 (l.go x).cells := IntsAt.keep (by repeat (first | fail | (with_reducible exact x6) | (with_reducible refine IntsAt.alloc ?_ _) | (with_reducible refine IntsAt.drewN ?_ _) | (with_reducible refine IntsAt.drew ?_) | (with_reducible refine IntsAt.set ?_ ?_ _; rotate_left 1; (intro h0; have hq0 := l6 h0; first | (dsimp only; omega) | omega | (simp; omega) | simp)) | exact x6)) hb24
      have C13 : Box w24 w21.heap.size [.int .i64 (l.go x).rows, .int .i64 (l.go x).cols, .slice a5 n5 k5] 25 := Box.keep (by repeat (first | fail | (with_reducible exact B13) | (with_reducible refine Box.alloc ?_ _) | (with_reducible refine Box.drewN ?_ _) | (with_reducible refine Box.drew ?_) | (with_reducible refine Box.far ?_ ?_ _; rotate_left 1; (first | (dsimp only; omega) | omega | (simp; omega) | simp)) | exact B13)) hb24
      have C14 : Box w24 w22.heap.size [.int .i64 (l.go x).rows, .int .i64 (l.go x).cols, .slice a6 n6 k6] 25 := (((B14.set 0 _).set 1 _).set 2 _).keep hb24
      have C13c := C13.cell
      have C14c := C14.cell
      clear B13 B13c B13f B13z B13k B14 B14c B14f B14z B14k
      go_wp2_with fail
      refine (matrices_same (l.go x) _ _ _ (MatAt.mk y5) (MatAt.mk y6)).mono ?_
      rintro e w25 ⟨rfl, hb25⟩
      go_wp2
      go_ret
      exact ⟨rfl, (by repeat (first | fail | (with_reducible exact Below.refl _ _) | (with_reducible exact hz0) | (with_reducible refine Below.al ?_ _) | (with_reducible refine Below.drN ?_ _) | (with_reducible refine Below.drew ?_) | (with_reducible refine Below.st ?_ ?_ _; rotate_left 1; (first | (dsimp only; omega) | omega | (simp; omega) | simp)) | (with_reducible refine Below.go ?_ hb25) | (with_reducible refine Below.go ?_ hb24) | (with_reducible refine Below.go ?_ hb23) | (with_reducible refine Below.go ?_ hb22) | (with_reducible refine Below.go ?_ hb21) | exact Below.refl _ _ | exact hz0))⟩
    · have qg : (l.goFault x == 0) = false := by simp [hG]
      have HG := Lib.hid hG
      clear hG
      go_wp2_with fail
      refine (layGo_any l x _ _ _ ⟨_, _, _, _, _, _, _, _, _, _, rfl, x0, x1⟩ (MatAt.mk x2)).mono ?_
      rw [orNone_bad HG.out]
      rintro e w21 ⟨v5, rfl, ⟨a5, n5, k5, b5, o5, rfl, hn5, x5⟩, hb21⟩
      have hkw21 : Below w5.heap.size w5 w21 := (by repeat (first | fail | (with_reducible exact Below.refl _ _) | (with_reducible refine Below.al ?_ _) | (with_reducible refine Below.drN ?_ _) | (with_reducible refine Below.drew ?_) | (with_reducible refine Below.st ?_ ?_ _; rotate_left 1; (first | (dsimp only; omega) | omega | (simp; omega) | simp)) | (with_reducible refine Below.go ?_ hb21) | exact Below.refl _ _))
      replace B0 := B0.keep hkw21
      replace B0c := B0.cell
      replace B0f := B0.thawed
      replace B0z := B0.lt
      replace B0k := lt_add B0z
      replace B1 := B1.keep hkw21
      replace B1c := B1.cell
      replace B1f := B1.thawed
      replace B1z := B1.lt
      replace B1k := lt_add B1z
      replace x0 := x0.keep hkw21
      replace x1 := x1.keep hkw21
      replace x2 := x2.keep hkw21
      replace hh := hh.keep hkw21
      have hsw21 := hkw21.size
      go_wp2_with fail
      refine (refGoFault_any l x _ _ _ ⟨_, _, _, _, _, _, _, _, _, _, rfl, x0.alloc _, x1.alloc _⟩ (MatAt.mk (x2.alloc _))).mono ?_
      rintro e w22 ⟨rfl, hb22⟩
      have B13 := (Box.new w21 [.int .i64 0, .int .i64 0, .slice a5 n5 k5] 25).keep hb22
      have B13c := B13.cell
      have B13f := B13.thawed
      have B13z := B13.lt
      have B13k := lt_add B13z
      have hkw22 : Below w21.heap.size w21 w22 := (by repeat (first | fail | (with_reducible exact Below.refl _ _) | (with_reducible refine Below.al ?_ _) | (with_reducible refine Below.drN ?_ _) | (with_reducible refine Below.drew ?_) | (with_reducible refine Below.st ?_ ?_ _; rotate_left 1; (first | (dsimp only; omega) | omega | (simp; omega) | simp)) | (with_reducible refine Below.go ?_ hb22) | exact Below.refl _ _))
      replace x5 := x5.keep hkw22
      replace hh := hh.keep hkw22
      have hsw22 := hkw22.size
      go_wp2_with fail
      refine (error_same _ _ (hh.alloc _)).mono ?_
      rintro e w23 ⟨rfl, hb23⟩
      have B14 := (Box.new w22 [.int .i64 0, .int .i64 0, .slice none 0 0] 25).keep hb23
      have B14c := B14.cell
      have B14f := B14.thawed
      have B14z := B14.lt
      have B14k := lt_add B14z
      have hkw23 : Below w22.heap.size w22 w23 := (by repeat (first | fail | (with_reducible exact Below.refl _ _) | (with_reducible refine Below.al ?_ _) | (with_reducible refine Below.drN ?_ _) | (with_reducible refine Below.drew ?_) | (with_reducible refine Below.st ?_ ?_ _; rotate_left 1; (first | (dsimp only; omega) | omega | (simp; omega) | simp)) | (with_reducible refine Below.go ?_ hb23) | exact Below.refl _ _))
      replace B13 := B13.keep hkw23
      replace B13c := B13.cell
      replace B13f := B13.thawed
      replace B13z := B13.lt
      replace B13k := lt_add B13z
      replace x5 := x5.keep hkw23
      replace hh := hh.keep hkw23
      have hsw23 := hkw23.size
      go_wp2_with fail
      refine (matrices_same Mat.none _ _ _ (MatAt.mk x5) (none_at _)).mono ?_
      rintro e w24 ⟨rfl, hb24⟩
      go_wp2
      go_ret
      exact ⟨rfl, (by repeat (first | fail | (with_reducible exact Below.refl _ _) | (with_reducible exact hz0) | (with_reducible refine Below.al ?_ _) | (with_reducible refine Below.drN ?_ _) | (with_reducible refine Below.drew ?_) | (with_reducible refine Below.st ?_ ?_ _; rotate_left 1; (first | (dsimp only; omega) | omega | (simp; omega) | simp)) | (with_reducible refine Below.go ?_ hb24) | (with_reducible refine Below.go ?_ hb23) | (with_reducible refine Below.go ?_ hb22) | (with_reducible refine Below.go ?_ hb21) | exact Below.refl _ _ | exact hz0))⟩
theorem walk3 (hl : l.fault = 0) (h1 : 0 ≤ i) (h2 : i ≤ 12) (ht : l.takes i) :
    Calls Tryd.prog 9 #[.agg #[.int .i64 l.kind, .int .i64 l.W.rows, .int .i64 l.W.cols, .slice a n k, .int .i64 l.B.rows, .int .i64 l.B.cols, .slice a' n' k'], .agg #[.int .i64 x.rows, .int .i64 x.cols, .slice a2 n2 k2], .int .i64 i] w fun e w' => e = .returned (.bool true) ∧ Below w.heap.size w w'
  := by
  have hh' := hh
  have hx' := x0
  have HL := Lib.hid hl
  have HLE := Lib.hid (show errV l.fault = .nilIface from errV_nil hl)
  have hw : l.wideFault i = 0 := by unfold Lay.wideFault; rw [if_neg (by simp [hl]), if_neg (by omega), if_pos ht]
  have hnn : 0 ≤ l.wide i := by
    obtain ⟨_, _, fw, _, _⟩ := Lay.fault_ok hl
    obtain ⟨R, K, _, e, _⟩ := matFault_ok fw
    unfold Lay.wide
    by_cases h1 : l.kind = 1
    · rw [if_pos h1]; omega
    · rw [if_neg h1]; omega
  have HW := Lib.hid (show errV (l.wideFault i) = .nilIface from errV_nil hw)
  have HK : Hid (okOr (l.wideFault i) (l.wide i) = l.wide i) := Lib.hid (okOr_ok hw)
  have HO : Hid (l.wideOr i = l.wide i) := Lib.hid (if_pos ht)
  clear hl hw ht
  go_enter Tryd.func9, Tryd.ntmps9
  go_wp2_with fail
  refine (refLayerFault_any l _ _ ⟨_, _, _, _, _, _, _, _, _, _, rfl, x0.alloc _ |>.alloc _, x1.alloc _ |>.alloc _⟩).mono ?_
  rw [HL.out]
  rintro e w1 ⟨rfl, hb1⟩
  have B0 := ((show Box _ w.heap.size [.int .i64 l.kind, .int .i64 l.W.rows, .int .i64 l.W.cols, .slice a n k, .int .i64 l.B.rows, .int .i64 l.B.cols, .slice a' n' k'] 70 from (by repeat (first | fail | (with_reducible refine (Box.new' _ w.heap.size _ _ ?_); (simp; done)) | (with_reducible refine Box.alloc ?_ _) | (with_reducible refine Box.drewN ?_ _) | (with_reducible refine Box.drew ?_) | (with_reducible refine Box.far ?_ ?_ _; rotate_left 1; (first | (dsimp only; omega) | omega | (simp; omega) | simp)))))).keep hb1
  have B0c := B0.cell
  have B0f := B0.thawed
  have B0z := B0.lt
  have B0k := lt_add B0z
  have B1 := ((show Box _ (w.heap.size + 1) [.int .i64 x.rows, .int .i64 x.cols, .slice a2 n2 k2] 25 from (by repeat (first | fail | (with_reducible refine (Box.new' _ (w.heap.size + 1) _ _ ?_); (simp; done)) | (with_reducible refine Box.alloc ?_ _) | (with_reducible refine Box.drewN ?_ _) | (with_reducible refine Box.drew ?_) | (with_reducible refine Box.far ?_ ?_ _; rotate_left 1; (first | (dsimp only; omega) | omega | (simp; omega) | simp)))))).keep hb1
  have B1c := B1.cell
  have B1f := B1.thawed
  have B1z := B1.lt
  have B1k := lt_add B1z
  have hkw1 : Below w.heap.size w w1 := (by repeat (first | fail | (with_reducible exact Below.refl _ _) | (with_reducible refine Below.al ?_ _) | (with_reducible refine Below.drN ?_ _) | (with_reducible refine Below.drew ?_) | (with_reducible refine Below.st ?_ ?_ _; rotate_left 1; (first | (dsimp only; omega) | omega | (simp; omega) | simp)) | (with_reducible refine Below.go ?_ hb1) | exact Below.refl _ _))
  replace x0 := x0.keep hkw1
  replace x1 := x1.keep hkw1
  replace x2 := x2.keep hkw1
  replace hh := hh.keep hkw1
  have hsw1 := hkw1.size
  go_wp2_with fail
  refine (layCheck_any l _ _ ⟨_, _, _, _, _, _, _, _, _, _, rfl, x0, x1⟩).mono ?_
  rw [HLE.out]
  rintro e w2 ⟨rfl, hb2⟩
  have hkw2 : Below w1.heap.size w1 w2 := (by repeat (first | fail | (with_reducible exact Below.refl _ _) | (with_reducible refine Below.al ?_ _) | (with_reducible refine Below.drN ?_ _) | (with_reducible refine Below.drew ?_) | (with_reducible refine Below.st ?_ ?_ _; rotate_left 1; (first | (dsimp only; omega) | omega | (simp; omega) | simp)) | (with_reducible refine Below.go ?_ hb2) | exact Below.refl _ _))
  replace B0 := B0.keep hkw2
  replace B0c := B0.cell
  replace B0f := B0.thawed
  replace B0z := B0.lt
  replace B0k := lt_add B0z
  replace B1 := B1.keep hkw2
  replace B1c := B1.cell
  replace B1f := B1.thawed
  replace B1z := B1.lt
  replace B1k := lt_add B1z
  replace x0 := x0.keep hkw2
  replace x1 := x1.keep hkw2
  replace x2 := x2.keep hkw2
  replace hh := hh.keep hkw2
  have hsw2 := hkw2.size
  go_wp2_with fail
  refine (error_same 0 _ hh).mono ?_
  rintro e w3 ⟨rfl, hb3⟩
  have hkw3 : Below w2.heap.size w2 w3 := (by repeat (first | fail | (with_reducible exact Below.refl _ _) | (with_reducible refine Below.al ?_ _) | (with_reducible refine Below.drN ?_ _) | (with_reducible refine Below.drew ?_) | (with_reducible refine Below.st ?_ ?_ _; rotate_left 1; (first | (dsimp only; omega) | omega | (simp; omega) | simp)) | (with_reducible refine Below.go ?_ hb3) | exact Below.refl _ _))
  replace B0 := B0.keep hkw3
  replace B0c := B0.cell
  replace B0f := B0.thawed
  replace B0z := B0.lt
  replace B0k := lt_add B0z
  replace B1 := B1.keep hkw3
  replace B1c := B1.cell
  replace B1f := B1.thawed
  replace B1z := B1.lt
  replace B1k := lt_add B1z
  replace x0 := x0.keep hkw3
  replace x1 := x1.keep hkw3
  replace x2 := x2.keep hkw3
  replace hh := hh.keep hkw3
  have hsw3 := hkw3.size
  go_wp2_with fail
  refine (layWide_any l i _ _ ⟨_, _, _, _, _, _, _, _, _, _, rfl, x0, x1⟩ hi).mono ?_
  rw [HK.out, HW.out]
  rintro e w4 ⟨rfl, hb4⟩
  have hkw4 : Below w3.heap.size w3 w4 := (by repeat (first | fail | (with_reducible exact Below.refl _ _) | (with_reducible refine Below.al ?_ _) | (with_reducible refine Below.drN ?_ _) | (with_reducible refine Below.drew ?_) | (with_reducible refine Below.st ?_ ?_ _; rotate_left 1; (first | (dsimp only; omega) | omega | (simp; omega) | simp)) | (with_reducible refine Below.go ?_ hb4) | exact Below.refl _ _))
  replace B0 := B0.keep hkw4
  replace B0c := B0.cell
  replace B0f := B0.thawed
  replace B0z := B0.lt
  replace B0k := lt_add B0z
  replace B1 := B1.keep hkw4
  replace B1c := B1.cell
  replace B1f := B1.thawed
  replace B1z := B1.lt
  replace B1k := lt_add B1z
  replace x0 := x0.keep hkw4
  replace x1 := x1.keep hkw4
  replace x2 := x2.keep hkw4
  replace hh := hh.keep hkw4
  have hsw4 := hkw4.size
  go_wp2_with fail
  refine (refWideOf_any l _ i _ ⟨_, _, _, _, _, _, _, _, _, _, rfl, x0, x1⟩).mono ?_
  rw [HO.out]
  rintro e w5 ⟨rfl, hb5⟩
  have hkw5 : Below w4.heap.size w4 w5 := (by repeat (first | fail | (with_reducible exact Below.refl _ _) | (with_reducible refine Below.al ?_ _) | (with_reducible refine Below.drN ?_ _) | (with_reducible refine Below.drew ?_) | (with_reducible refine Below.st ?_ ?_ _; rotate_left 1; (first | (dsimp only; omega) | omega | (simp; omega) | simp)) | (with_reducible refine Below.go ?_ hb5) | exact Below.refl _ _))
  replace B0 := B0.keep hkw5
  replace B0c := B0.cell
  replace B0f := B0.thawed
  replace B0z := B0.lt
  replace B0k := lt_add B0z
  replace B1 := B1.keep hkw5
  replace B1c := B1.cell
  replace B1f := B1.thawed
  replace B1z := B1.lt
  replace B1k := lt_add B1z
  replace x0 := x0.keep hkw5
  replace x1 := x1.keep hkw5
  replace x2 := x2.keep hkw5
  replace hh := hh.keep hkw5
  have hsw5 := hkw5.size
  go_wp2_with fail
  refine (error_same 0 _ hh).mono ?_
  rintro e w6 ⟨rfl, hb6⟩
  have hkw6 : Below w5.heap.size w5 w6 := (by repeat (first | fail | (with_reducible exact Below.refl _ _) | (with_reducible refine Below.al ?_ _) | (with_reducible refine Below.drN ?_ _) | (with_reducible refine Below.drew ?_) | (with_reducible refine Below.st ?_ ?_ _; rotate_left 1; (first | (dsimp only; omega) | omega | (simp; omega) | simp)) | (with_reducible refine Below.go ?_ hb6) | exact Below.refl _ _))
  replace B0 := B0.keep hkw6
  replace B0c := B0.cell
  replace B0f := B0.thawed
  replace B0z := B0.lt
  replace B0k := lt_add B0z
  replace B1 := B1.keep hkw6
  replace B1c := B1.cell
  replace B1f := B1.thawed
  replace B1z := B1.lt
  replace B1k := lt_add B1z
  replace x0 := x0.keep hkw6
  replace x1 := x1.keep hkw6
  replace x2 := x2.keep hkw6
  replace hh := hh.keep hkw6
  have hsw6 := hkw6.size
  have hz0 : Below w.heap.size w w6 := (by repeat (first | fail | (with_reducible exact Below.refl _ _) | (with_reducible refine Below.al ?_ _) | (with_reducible refine Below.drN ?_ _) | (with_reducible refine Below.drew ?_) | (with_reducible refine Below.st ?_ ?_ _; rotate_left 1; (first | (dsimp only; omega) | omega | (simp; omega) | simp)) | (with_reducible refine Below.go ?_ hb6) | (with_reducible refine Below.go ?_ hb5) | (with_reducible refine Below.go ?_ hb4) | (with_reducible refine Below.go ?_ hb3) | (with_reducible refine Below.go ?_ hb2) | (with_reducible refine Below.go ?_ hb1) | exact Below.refl _ _))
  clear hh' hx'
  by_cases hG : l.goFault x = 0
  · have HG := Lib.hid hG
    have HGE := Lib.hid (show errV (l.goFault x) = .nilIface from errV_nil hG)
    clear hG
    go_wp2_with fail
    refine (layGo_any l x _ _ _ ⟨_, _, _, _, _, _, _, _, _, _, rfl, x0, x1⟩ (MatAt.mk x2)).mono ?_
    rw [HGE.out, orNone_ok HG.out]
    rintro e w21 ⟨v5, rfl, ⟨a5, n5, k5, b5, o5, rfl, hn5, x5⟩, hb21⟩
    have hkw21 : Below w6.heap.size w6 w21 := (by repeat (first | fail | (with_reducible exact Below.refl _ _) | (with_reducible refine Below.al ?_ _) | (with_reducible refine Below.drN ?_ _) | (with_reducible refine Below.drew ?_) | (with_reducible refine Below.st ?_ ?_ _; rotate_left 1; (first | (dsimp only; omega) | omega | (simp; omega) | simp)) | (with_reducible refine Below.go ?_ hb21) | exact Below.refl _ _))
    replace B0 := B0.keep hkw21
    replace B0c := B0.cell
    replace B0f := B0.thawed
    replace B0z := B0.lt
    replace B0k := lt_add B0z
    replace B1 := B1.keep hkw21
    replace B1c := B1.cell
    replace B1f := B1.thawed
    replace B1z := B1.lt
    replace B1k := lt_add B1z
    replace x0 := x0.keep hkw21
    replace x1 := x1.keep hkw21
    replace x2 := x2.keep hkw21
    replace hh := hh.keep hkw21
    have hsw21 := hkw21.size
    go_wp2_with fail
    refine (refGoFault_any l x _ _ _ ⟨_, _, _, _, _, _, _, _, _, _, rfl, x0.alloc _, x1.alloc _⟩ (MatAt.mk (x2.alloc _))).mono ?_
    rw [HG.out]
    rintro e w22 ⟨rfl, hb22⟩
    have B13 := (Box.new w21 [.int .i64 (l.go x).rows, .int .i64 (l.go x).cols, .slice a5 n5 k5] 25).keep hb22
    have B13c := B13.cell
    have B13f := B13.thawed
    have B13z := B13.lt
    have B13k := lt_add B13z
    have hkw22 : Below w21.heap.size w21 w22 := (by repeat (first | fail | (with_reducible exact Below.refl _ _) | (with_reducible refine Below.al ?_ _) | (with_reducible refine Below.drN ?_ _) | (with_reducible refine Below.drew ?_) | (with_reducible refine Below.st ?_ ?_ _; rotate_left 1; (first | (dsimp only; omega) | omega | (simp; omega) | simp)) | (with_reducible refine Below.go ?_ hb22) | exact Below.refl _ _))
    replace B0 := B0.keep hkw22
    replace B0c := B0.cell
    replace B0f := B0.thawed
    replace B0z := B0.lt
    replace B0k := lt_add B0z
    replace B1 := B1.keep hkw22
    replace B1c := B1.cell
    replace B1f := B1.thawed
    replace B1z := B1.lt
    replace B1k := lt_add B1z
    replace x0 := x0.keep hkw22
    replace x1 := x1.keep hkw22
    replace x2 := x2.keep hkw22
    replace x5 := x5.keep hkw22
    replace hh := hh.keep hkw22
    have hsw22 := hkw22.size
    have l5 : 0 < n5 → b5 < w22.heap.size := x5.lt
    go_wp2_with fail
    refine (refGoOf_any l x _ _ _ ⟨_, _, _, _, _, _, _, _, _, _, rfl, x0.alloc _, x1.alloc _⟩ (MatAt.mk (x2.alloc _)) HG.out).mono ?_
    rintro e w23 ⟨v6, rfl, ⟨a6, n6, k6, b6, o6, rfl, hn6, x6⟩, hb23⟩
    have B14 := (Box.new w22 [.int .i64 0, .int .i64 0, .slice none 0 0] 25).keep hb23
    have B14c := B14.cell
    have B14f := B14.thawed
    have B14z := B14.lt
    have B14k := lt_add B14z
    have hkw23 : Below w22.heap.size w22 w23 := (by repeat (first | fail | (with_reducible exact Below.refl _ _) | (with_reducible refine Below.al ?_ _) | (with_reducible refine Below.drN ?_ _) | (with_reducible refine Below.drew ?_) | (with_reducible refine Below.st ?_ ?_ _; rotate_left 1; (first | (dsimp only; omega) | omega | (simp; omega) | simp)) | (with_reducible refine Below.go ?_ hb23) | exact Below.refl _ _))
    replace B13 := B13.keep hkw23
    replace B13c := B13.cell
    replace B13f := B13.thawed
    replace B13z := B13.lt
    replace B13k := lt_add B13z
    replace x5 := x5.keep hkw23
    replace hh := hh.keep hkw23
    have hsw23 := hkw23.size
    have l6 : 0 < n6 → w22.heap.size < b6 := fun h => by have := hn6 h; simp at this; omega
    have l13 : w21.heap.size < w22.heap.size := by have := hb22.size; simp at this; omega
    have hgl := hh.lt
    have hgw : 0 < w22.heap.size := by omega
    have hh' : Handle (((w23.setCell ⟨w22.heap.size, 0, none⟩ (.int .i64 (l.go x).rows)).setCell ⟨w22.heap.size, 1, none⟩ (.int .i64 (l.go x).cols)).setCell ⟨w22.heap.size, 2, none⟩ (.slice a6 n6 k6)) :=
      hh.farS (S := (· = w22.heap.size)) ((((Far.refl (· = w22.heap.size) w23).st (a := ⟨w22.heap.size, 0, none⟩) (fun _ => rfl) _).st (a := ⟨w22.heap.size, 1, none⟩) (fun _ => rfl) _).st (a := ⟨w22.heap.size, 2, none⟩) (fun _ => rfl) _) (by omega)
    go_wp2_with fail
    refine (error_same 0 _ hh').mono ?_
    rintro e w24 ⟨rfl, hb24⟩
    have y5 : IntsAt w24 a5 n5 k5 b5 o5 (l.go x).cells := IntsAt.keep (by repeat (first | fail | (with_reducible exact x5) | (with_reducible refine IntsAt.alloc ?_ _) | (with_reducible refine IntsAt.drewN ?_ _) | (with_reducible refine IntsAt.drew ?_) | (with_reducible refine IntsAt.set ?_ ?_ _; rotate_left 1; (intro h0; have hq0 := l5 h0; first | (dsimp only; omega) | omega | (simp; omega) | simp)) | exact x5)) hb24
    have y6 : IntsAt w24 a6 n6 k6 b6 o6 (l.go x).cells := IntsAt.keep (by repeat (first | fail | (with_reducible exact x6) | (with_reducible refine IntsAt.alloc ?_ _) | (with_reducible refine IntsAt.drewN ?_ _) | (with_reducible refine IntsAt.drew ?_) | (with_reducible refine IntsAt.set ?_ ?_ _; rotate_left 1; (intro h0; have hq0 := l6 h0; first | (dsimp only; omega) | omega | (simp; omega) | simp)) | exact x6)) hb24
    have C13 : Box w24 w21.heap.size [.int .i64 (l.go x).rows, .int .i64 (l.go x).cols, .slice a5 n5 k5] 25 := Box.keep (by repeat (first | fail | (with_reducible exact B13) | (with_reducible refine Box.alloc ?_ _) | (with_reducible refine Box.drewN ?_ _) | (with_reducible refine Box.drew ?_) | (with_reducible refine Box.far ?_ ?_ _; rotate_left 1; (first | (dsimp only; omega) | omega | (simp; omega) | simp)) | exact B13)) hb24
    have C14 : Box w24 w22.heap.size [.int .i64 (l.go x).rows, .int .i64 (l.go x).cols, .slice a6 n6 k6] 25 := (((B14.set 0 _).set 1 _).set 2 _).keep hb24
    have C13c := C13.cell
    have C14c := C14.cell
    clear B13 B13c B13f B13z B13k B14 B14c B14f B14z B14k
    go_wp2_with fail
    refine (matrices_same (l.go x) _ _ _ (MatAt.mk y5) (MatAt.mk y6)).mono ?_
    rintro e w25 ⟨rfl, hb25⟩
    go_wp2
    go_ret
    exact ⟨rfl, (by repeat (first | fail | (with_reducible exact Below.refl _ _) | (with_reducible exact hz0) | (with_reducible refine Below.al ?_ _) | (with_reducible refine Below.drN ?_ _) | (with_reducible refine Below.drew ?_) | (with_reducible refine Below.st ?_ ?_ _; rotate_left 1; (first | (dsimp only; omega) | omega | (simp; omega) | simp)) | (with_reducible refine Below.go ?_ hb25) | (with_reducible refine Below.go ?_ hb24) | (with_reducible refine Below.go ?_ hb23) | (with_reducible refine Below.go ?_ hb22) | (with_reducible refine Below.go ?_ hb21) | exact Below.refl _ _ | exact hz0))⟩
  · have qg : (l.goFault x == 0) = false := by simp [hG]
    have HG := Lib.hid hG
    clear hG
    go_wp2_with fail
    refine (layGo_any l x _ _ _ ⟨_, _, _, _, _, _, _, _, _, _, rfl, x0, x1⟩ (MatAt.mk x2)).mono ?_
    rw [orNone_bad HG.out]
    rintro e w21 ⟨v5, rfl, ⟨a5, n5, k5, b5, o5, rfl, hn5, x5⟩, hb21⟩
    have hkw21 : Below w6.heap.size w6 w21 := (by repeat (first | fail | (with_reducible exact Below.refl _ _) | (with_reducible refine Below.al ?_ _) | (with_reducible refine Below.drN ?_ _) | (with_reducible refine Below.drew ?_) | (with_reducible refine Below.st ?_ ?_ _; rotate_left 1; (first | (dsimp only; omega) | omega | (simp; omega) | simp)) | (with_reducible refine Below.go ?_ hb21) | exact Below.refl _ _))
    replace B0 := B0.keep hkw21
    replace B0c := B0.cell
    replace B0f := B0.thawed
    replace B0z := B0.lt
    replace B0k := lt_add B0z
    replace B1 := B1.keep hkw21
    replace B1c := B1.cell
    replace B1f := B1.thawed
    replace B1z := B1.lt
    replace B1k := lt_add B1z
    replace x0 := x0.keep hkw21
    replace x1 := x1.keep hkw21
    replace x2 := x2.keep hkw21
    replace hh := hh.keep hkw21
    have hsw21 := hkw21.size
    go_wp2_with fail
    refine (refGoFault_any l x _ _ _ ⟨_, _, _, _, _, _, _, _, _, _, rfl, x0.alloc _, x1.alloc _⟩ (MatAt.mk (x2.alloc _))).mono ?_
    rintro e w22 ⟨rfl, hb22⟩
    have B13 := (Box.new w21 [.int .i64 0, .int .i64 0, .slice a5 n5 k5] 25).keep hb22
    have B13c := B13.cell
    have B13f := B13.thawed
    have B13z := B13.lt
    have B13k := lt_add B13z
    have hkw22 : Below w21.heap.size w21 w22 := (by repeat (first | fail | (with_reducible exact Below.refl _ _) | (with_reducible refine Below.al ?_ _) | (with_reducible refine Below.drN ?_ _) | (with_reducible refine Below.drew ?_) | (with_reducible refine Below.st ?_ ?_ _; rotate_left 1; (first | (dsimp only; omega) | omega | (simp; omega) | simp)) | (with_reducible refine Below.go ?_ hb22) | exact Below.refl _ _))
    replace x5 := x5.keep hkw22
    replace hh := hh.keep hkw22
    have hsw22 := hkw22.size
    go_wp2_with fail
    refine (error_same _ _ (hh.alloc _)).mono ?_
    rintro e w23 ⟨rfl, hb23⟩
    have B14 := (Box.new w22 [.int .i64 0, .int .i64 0, .slice none 0 0] 25).keep hb23
    have B14c := B14.cell
    have B14f := B14.thawed
    have B14z := B14.lt
    have B14k := lt_add B14z
    have hkw23 : Below w22.heap.size w22 w23 := (by repeat (first | fail | (with_reducible exact Below.refl _ _) | (with_reducible refine Below.al ?_ _) | (with_reducible refine Below.drN ?_ _) | (with_reducible refine Below.drew ?_) | (with_reducible refine Below.st ?_ ?_ _; rotate_left 1; (first | (dsimp only; omega) | omega | (simp; omega) | simp)) | (with_reducible refine Below.go ?_ hb23) | exact Below.refl _ _))
    replace B13 := B13.keep hkw23
    replace B13c := B13.cell
    replace B13f := B13.thawed
    replace B13z := B13.lt
    replace B13k := lt_add B13z
    replace x5 := x5.keep hkw23
    replace hh := hh.keep hkw23
    have hsw23 := hkw23.size
    go_wp2_with fail
    refine (matrices_same Mat.none _ _ _ (MatAt.mk x5) (none_at _)).mono ?_
    rintro e w24 ⟨rfl, hb24⟩
    go_wp2
    go_ret
    exact ⟨rfl, (by repeat (first | fail | (with_reducible exact Below.refl _ _) | (with_reducible exact hz0) | (with_reducible refine Below.al ?_ _) | (with_reducible refine Below.drN ?_ _) | (with_reducible refine Below.drew ?_) | (with_reducible refine Below.st ?_ ?_ _; rotate_left 1; (first | (dsimp only; omega) | omega | (simp; omega) | simp)) | (with_reducible refine Below.go ?_ hb24) | (with_reducible refine Below.go ?_ hb23) | (with_reducible refine Below.go ?_ hb22) | (with_reducible refine Below.go ?_ hb21) | exact Below.refl _ _ | exact hz0))⟩
theorem walk4 (hl : l.fault = 0) (h1 : 0 ≤ i) (h2 : i ≤ 12) (ht : ¬ l.takes i) :
    Calls Tryd.prog 9 #[.agg #[.int .i64 l.kind, .int .i64 l.W.rows, .int .i64 l.W.cols, .slice a n k, .int .i64 l.B.rows, .int .i64 l.B.cols, .slice a' n' k'], .agg #[.int .i64 x.rows, .int .i64 x.cols, .slice a2 n2 k2], .int .i64 i] w fun e w' => e = .returned (.bool true) ∧ Below w.heap.size w w'
  := by
  have hh' := hh
  have hx' := x0
  have HL := Lib.hid hl
  have HLE := Lib.hid (show errV l.fault = .nilIface from errV_nil hl)
  have hw : l.wideFault i = 2 := by unfold Lay.wideFault; rw [if_neg (by simp [hl]), if_neg (by omega), if_neg ht]
  have HW := Lib.hid hw
  have HK : Hid (okOr (l.wideFault i) (l.wide i) = 0) := Lib.hid (okOr_bad (by rw [hw]; decide))
  have HO : Hid (l.wideOr i = -1) := Lib.hid (if_neg ht)
  clear hl hw ht
  go_enter Tryd.func9, Tryd.ntmps9
  go_wp2_with fail
  refine (refLayerFault_any l _ _ ⟨_, _, _, _, _, _, _, _, _, _, rfl, x0.alloc _ |>.alloc _, x1.alloc _ |>.alloc _⟩).mono ?_
  rw [HL.out]
  rintro e w1 ⟨rfl, hb1⟩
  have B0 := ((show Box _ w.heap.size [.int .i64 l.kind, .int .i64 l.W.rows, .int .i64 l.W.cols, .slice a n k, .int .i64 l.B.rows, .int .i64 l.B.cols, .slice a' n' k'] 70 from (by repeat (first | fail | (with_reducible refine (Box.new' _ w.heap.size _ _ ?_); (simp; done)) | (with_reducible refine Box.alloc ?_ _) | (with_reducible refine Box.drewN ?_ _) | (with_reducible refine Box.drew ?_) | (with_reducible refine Box.far ?_ ?_ _; rotate_left 1; (first | (dsimp only; omega) | omega | (simp; omega) | simp)))))).keep hb1
  have B0c := B0.cell
  have B0f := B0.thawed
  have B0z := B0.lt
  have B0k := lt_add B0z
  have B1 := ((show Box _ (w.heap.size + 1) [.int .i64 x.rows, .int .i64 x.cols, .slice a2 n2 k2] 25 from (by repeat (first | fail | (with_reducible refine (Box.new' _ (w.heap.size + 1) _ _ ?_); (simp; done)) | (with_reducible refine Box.alloc ?_ _) | (with_reducible refine Box.drewN ?_ _) | (with_reducible refine Box.drew ?_) | (with_reducible refine Box.far ?_ ?_ _; rotate_left 1; (first | (dsimp only; omega) | omega | (simp; omega) | simp)))))).keep hb1
  have B1c := B1.cell
  have B1f := B1.thawed
  have B1z := B1.lt
  have B1k := lt_add B1z
  have hkw1 : Below w.heap.size w w1 := (by repeat (first | fail | (with_reducible exact Below.refl _ _) | (with_reducible refine Below.al ?_ _) | (with_reducible refine Below.drN ?_ _) | (with_reducible refine Below.drew ?_) | (with_reducible refine Below.st ?_ ?_ _; rotate_left 1; (first | (dsimp only; omega) | omega | (simp; omega) | simp)) | (with_reducible refine Below.go ?_ hb1) | exact Below.refl _ _))
  replace x0 := x0.keep hkw1
  replace x1 := x1.keep hkw1
  replace x2 := x2.keep hkw1
  replace hh := hh.keep hkw1
  have hsw1 := hkw1.size
  go_wp2_with fail
  refine (layCheck_any l _ _ ⟨_, _, _, _, _, _, _, _, _, _, rfl, x0, x1⟩).mono ?_
  rw [HLE.out]
  rintro e w2 ⟨rfl, hb2⟩
  have hkw2 : Below w1.heap.size w1 w2 := (by repeat (first | fail | (with_reducible exact Below.refl _ _) | (with_reducible refine Below.al ?_ _) | (with_reducible refine Below.drN ?_ _) | (with_reducible refine Below.drew ?_) | (with_reducible refine Below.st ?_ ?_ _; rotate_left 1; (first | (dsimp only; omega) | omega | (simp; omega) | simp)) | (with_reducible refine Below.go ?_ hb2) | exact Below.refl _ _))
  replace B0 := B0.keep hkw2
  replace B0c := B0.cell
  replace B0f := B0.thawed
  replace B0z := B0.lt
  replace B0k := lt_add B0z
  replace B1 := B1.keep hkw2
  replace B1c := B1.cell
  replace B1f := B1.thawed
  replace B1z := B1.lt
  replace B1k := lt_add B1z
  replace x0 := x0.keep hkw2
  replace x1 := x1.keep hkw2
  replace x2 := x2.keep hkw2
  replace hh := hh.keep hkw2
  have hsw2 := hkw2.size
  go_wp2_with fail
  refine (error_same 0 _ hh).mono ?_
  rintro e w3 ⟨rfl, hb3⟩
  have hkw3 : Below w2.heap.size w2 w3 := (by repeat (first | fail | (with_reducible exact Below.refl _ _) | (with_reducible refine Below.al ?_ _) | (with_reducible refine Below.drN ?_ _) | (with_reducible refine Below.drew ?_) | (with_reducible refine Below.st ?_ ?_ _; rotate_left 1; (first | (dsimp only; omega) | omega | (simp; omega) | simp)) | (with_reducible refine Below.go ?_ hb3) | exact Below.refl _ _))
  replace B0 := B0.keep hkw3
  replace B0c := B0.cell
  replace B0f := B0.thawed
  replace B0z := B0.lt
  replace B0k := lt_add B0z
  replace B1 := B1.keep hkw3
  replace B1c := B1.cell
  replace B1f := B1.thawed
  replace B1z := B1.lt
  replace B1k := lt_add B1z
  replace x0 := x0.keep hkw3
  replace x1 := x1.keep hkw3
  replace x2 := x2.keep hkw3
  replace hh := hh.keep hkw3
  have hsw3 := hkw3.size
  go_wp2_with fail
  refine (layWide_any l i _ _ ⟨_, _, _, _, _, _, _, _, _, _, rfl, x0, x1⟩ hi).mono ?_
  rw [HK.out, HW.out]
  rintro e w4 ⟨rfl, hb4⟩
  have hkw4 : Below w3.heap.size w3 w4 := (by repeat (first | fail | (with_reducible exact Below.refl _ _) | (with_reducible refine Below.al ?_ _) | (with_reducible refine Below.drN ?_ _) | (with_reducible refine Below.drew ?_) | (with_reducible refine Below.st ?_ ?_ _; rotate_left 1; (first | (dsimp only; omega) | omega | (simp; omega) | simp)) | (with_reducible refine Below.go ?_ hb4) | exact Below.refl _ _))
  replace B0 := B0.keep hkw4
  replace B0c := B0.cell
  replace B0f := B0.thawed
  replace B0z := B0.lt
  replace B0k := lt_add B0z
  replace B1 := B1.keep hkw4
  replace B1c := B1.cell
  replace B1f := B1.thawed
  replace B1z := B1.lt
  replace B1k := lt_add B1z
  replace x0 := x0.keep hkw4
  replace x1 := x1.keep hkw4
  replace x2 := x2.keep hkw4
  replace hh := hh.keep hkw4
  have hsw4 := hkw4.size
  go_wp2_with fail
  refine (refWideOf_any l _ i _ ⟨_, _, _, _, _, _, _, _, _, _, rfl, x0, x1⟩).mono ?_
  rw [HO.out]
  rintro e w5 ⟨rfl, hb5⟩
  have hkw5 : Below w4.heap.size w4 w5 := (by repeat (first | fail | (with_reducible exact Below.refl _ _) | (with_reducible refine Below.al ?_ _) | (with_reducible refine Below.drN ?_ _) | (with_reducible refine Below.drew ?_) | (with_reducible refine Below.st ?_ ?_ _; rotate_left 1; (first | (dsimp only; omega) | omega | (simp; omega) | simp)) | (with_reducible refine Below.go ?_ hb5) | exact Below.refl _ _))
  replace B0 := B0.keep hkw5
  replace B0c := B0.cell
  replace B0f := B0.thawed
  replace B0z := B0.lt
  replace B0k := lt_add B0z
  replace B1 := B1.keep hkw5
  replace B1c := B1.cell
  replace B1f := B1.thawed
  replace B1z := B1.lt
  replace B1k := lt_add B1z
  replace x0 := x0.keep hkw5
  replace x1 := x1.keep hkw5
  replace x2 := x2.keep hkw5
  replace hh := hh.keep hkw5
  have hsw5 := hkw5.size
  go_wp2_with fail
  refine (error_same 2 _ hh).mono ?_
  rintro e w6 ⟨rfl, hb6⟩
  have hkw6 : Below w5.heap.size w5 w6 := (by repeat (first | fail | (with_reducible exact Below.refl _ _) | (with_reducible refine Below.al ?_ _) | (with_reducible refine Below.drN ?_ _) | (with_reducible refine Below.drew ?_) | (with_reducible refine Below.st ?_ ?_ _; rotate_left 1; (first | (dsimp only; omega) | omega | (simp; omega) | simp)) | (with_reducible refine Below.go ?_ hb6) | exact Below.refl _ _))
  replace B0 := B0.keep hkw6
  replace B0c := B0.cell
  replace B0f := B0.thawed
  replace B0z := B0.lt
  replace B0k := lt_add B0z
  replace B1 := B1.keep hkw6
  replace B1c := B1.cell
  replace B1f := B1.thawed
  replace B1z := B1.lt
  replace B1k := lt_add B1z
  replace x0 := x0.keep hkw6
  replace x1 := x1.keep hkw6
  replace x2 := x2.keep hkw6
  replace hh := hh.keep hkw6
  have hsw6 := hkw6.size
  have hz0 : Below w.heap.size w w6 := (by repeat (first | fail | (with_reducible exact Below.refl _ _) | (with_reducible refine Below.al ?_ _) | (with_reducible refine Below.drN ?_ _) | (with_reducible refine Below.drew ?_) | (with_reducible refine Below.st ?_ ?_ _; rotate_left 1; (first | (dsimp only; omega) | omega | (simp; omega) | simp)) | (with_reducible refine Below.go ?_ hb6) | (with_reducible refine Below.go ?_ hb5) | (with_reducible refine Below.go ?_ hb4) | (with_reducible refine Below.go ?_ hb3) | (with_reducible refine Below.go ?_ hb2) | (with_reducible refine Below.go ?_ hb1) | exact Below.refl _ _))
  clear hh' hx'
  by_cases hG : l.goFault x = 0
  · have HG := Lib.hid hG
    have HGE := Lib.hid (show errV (l.goFault x) = .nilIface from errV_nil hG)
    clear hG
    go_wp2_with fail
    refine (layGo_any l x _ _ _ ⟨_, _, _, _, _, _, _, _, _, _, rfl, x0, x1⟩ (MatAt.mk x2)).mono ?_
    rw [HGE.out, orNone_ok HG.out]
    rintro e w21 ⟨v5, rfl, ⟨a5, n5, k5, b5, o5, rfl, hn5, x5⟩, hb21⟩
    have hkw21 : Below w6.heap.size w6 w21 := (by repeat (first | fail | (with_reducible exact Below.refl _ _) | (with_reducible refine Below.al ?_ _) | (with_reducible refine Below.drN ?_ _) | (with_reducible refine Below.drew ?_) | (with_reducible refine Below.st ?_ ?_ _; rotate_left 1; (first | (dsimp only; omega) | omega | (simp; omega) | simp)) | (with_reducible refine Below.go ?_ hb21) | exact Below.refl _ _))
    replace B0 := B0.keep hkw21
    replace B0c := B0.cell
    replace B0f := B0.thawed
    replace B0z := B0.lt
    replace B0k := lt_add B0z
    replace B1 := B1.keep hkw21
    replace B1c := B1.cell
    replace B1f := B1.thawed
    replace B1z := B1.lt
    replace B1k := lt_add B1z
    replace x0 := x0.keep hkw21
    replace x1 := x1.keep hkw21
    replace x2 := x2.keep hkw21
    replace hh := hh.keep hkw21
    have hsw21 := hkw21.size
    go_wp2_with fail
    refine (refGoFault_any l x _ _ _ ⟨_, _, _, _, _, _, _, _, _, _, rfl, x0.alloc _, x1.alloc _⟩ (MatAt.mk (x2.alloc _))).mono ?_
    rw [HG.out]
    rintro e w22 ⟨rfl, hb22⟩
    have B13 := (Box.new w21 [.int .i64 (l.go x).rows, .int .i64 (l.go x).cols, .slice a5 n5 k5] 25).keep hb22
    have B13c := B13.cell
    have B13f := B13.thawed
    have B13z := B13.lt
    have B13k := lt_add B13z
    have hkw22 : Below w21.heap.size w21 w22 := (by repeat (first | fail | (with_reducible exact Below.refl _ _) | (with_reducible refine Below.al ?_ _) | (with_reducible refine Below.drN ?_ _) | (with_reducible refine Below.drew ?_) | (with_reducible refine Below.st ?_ ?_ _; rotate_left 1; (first | (dsimp only; omega) | omega | (simp; omega) | simp)) | (with_reducible refine Below.go ?_ hb22) | exact Below.refl _ _))
    replace B0 := B0.keep hkw22
    replace B0c := B0.cell
    replace B0f := B0.thawed
    replace B0z := B0.lt
    replace B0k := lt_add B0z
    replace B1 := B1.keep hkw22
    replace B1c := B1.cell
    replace B1f := B1.thawed
    replace B1z := B1.lt
    replace B1k := lt_add B1z
    replace x0 := x0.keep hkw22
    replace x1 := x1.keep hkw22
    replace x2 := x2.keep hkw22
    replace x5 := x5.keep hkw22
    replace hh := hh.keep hkw22
    have hsw22 := hkw22.size
    have l5 : 0 < n5 → b5 < w22.heap.size := x5.lt
    go_wp2_with fail
    refine (refGoOf_any l x _ _ _ ⟨_, _, _, _, _, _, _, _, _, _, rfl, x0.alloc _, x1.alloc _⟩ (MatAt.mk (x2.alloc _)) HG.out).mono ?_
    rintro e w23 ⟨v6, rfl, ⟨a6, n6, k6, b6, o6, rfl, hn6, x6⟩, hb23⟩
    have B14 := (Box.new w22 [.int .i64 0, .int .i64 0, .slice none 0 0] 25).keep hb23
    have B14c := B14.cell
    have B14f := B14.thawed
    have B14z := B14.lt
    have B14k := lt_add B14z
    have hkw23 : Below w22.heap.size w22 w23 := (by repeat (first | fail | (with_reducible exact Below.refl _ _) | (with_reducible refine Below.al ?_ _) | (with_reducible refine Below.drN ?_ _) | (with_reducible refine Below.drew ?_) | (with_reducible refine Below.st ?_ ?_ _; rotate_left 1; (first | (dsimp only; omega) | omega | (simp; omega) | simp)) | (with_reducible refine Below.go ?_ hb23) | exact Below.refl _ _))
    replace B13 := B13.keep hkw23
    replace B13c := B13.cell
    replace B13f := B13.thawed
    replace B13z := B13.lt
    replace B13k := lt_add B13z
    replace x5 := x5.keep hkw23
    replace hh := hh.keep hkw23
    have hsw23 := hkw23.size
    have l6 : 0 < n6 → w22.heap.size < b6 := fun h => by have := hn6 h; simp at this; omega
    have l13 : w21.heap.size < w22.heap.size := by have := hb22.size; simp at this; omega
    have hgl := hh.lt
    have hgw : 0 < w22.heap.size := by omega
    have hh' : Handle (((w23.setCell ⟨w22.heap.size, 0, none⟩ (.int .i64 (l.go x).rows)).setCell ⟨w22.heap.size, 1, none⟩ (.int .i64 (l.go x).cols)).setCell ⟨w22.heap.size, 2, none⟩ (.slice a6 n6 k6)) :=
      hh.farS (S := (· = w22.heap.size)) ((((Far.refl (· = w22.heap.size) w23).st (a := ⟨w22.heap.size, 0, none⟩) (fun _ => rfl) _).st (a := ⟨w22.heap.size, 1, none⟩) (fun _ => rfl) _).st (a := ⟨w22.heap.size, 2, none⟩) (fun _ => rfl) _) (by omega)
    go_wp2_with fail
    refine (error_same 0 _ hh').mono ?_
    rintro e w24 ⟨rfl, hb24⟩
    have y5 : IntsAt w24 a5 n5 k5 b5 o5 (l.go x).cells := IntsAt.keep (by repeat (first | fail | (with_reducible exact x5) | (with_reducible refine IntsAt.alloc ?_ _) | (with_reducible refine IntsAt.drewN ?_ _) | (with_reducible refine IntsAt.drew ?_) | (with_reducible refine IntsAt.set ?_ ?_ _; rotate_left 1; (intro h0; have hq0 := l5 h0; first | (dsimp only; omega) | omega | (simp; omega) | simp)) | exact x5)) hb24
    have y6 : IntsAt w24 a6 n6 k6 b6 o6 (l.go x).cells := IntsAt.keep (by repeat (first | fail | (with_reducible exact x6) | (with_reducible refine IntsAt.alloc ?_ _) | (with_reducible refine IntsAt.drewN ?_ _) | (with_reducible refine IntsAt.drew ?_) | (with_reducible refine IntsAt.set ?_ ?_ _; rotate_left 1; (intro h0; have hq0 := l6 h0; first | (dsimp only; omega) | omega | (simp; omega) | simp)) | exact x6)) hb24
    have C13 : Box w24 w21.heap.size [.int .i64 (l.go x).rows, .int .i64 (l.go x).cols, .slice a5 n5 k5] 25 := Box.keep (by repeat (first | fail | (with_reducible exact B13) | (with_reducible refine Box.alloc ?_ _) | (with_reducible refine Box.drewN ?_ _) | (with_reducible refine Box.drew ?_) | (with_reducible refine Box.far ?_ ?_ _; rotate_left 1; (first | (dsimp only; omega) | omega | (simp; omega) | simp)) | exact B13)) hb24
    have C14 : Box w24 w22.heap.size [.int .i64 (l.go x).rows, .int .i64 (l.go x).cols, .slice a6 n6 k6] 25 := (((B14.set 0 _).set 1 _).set 2 _).keep hb24
    have C13c := C13.cell
    have C14c := C14.cell
    clear B13 B13c B13f B13z B13k B14 B14c B14f B14z B14k
    go_wp2_with fail
    refine (matrices_same (l.go x) _ _ _ (MatAt.mk y5) (MatAt.mk y6)).mono ?_
    rintro e w25 ⟨rfl, hb25⟩
    go_wp2
    go_ret
    exact ⟨rfl, (by repeat (first | fail | (with_reducible exact Below.refl _ _) | (with_reducible exact hz0) | (with_reducible refine Below.al ?_ _) | (with_reducible refine Below.drN ?_ _) | (with_reducible refine Below.drew ?_) | (with_reducible refine Below.st ?_ ?_ _; rotate_left 1; (first | (dsimp only; omega) | omega | (simp; omega) | simp)) | (with_reducible refine Below.go ?_ hb25) | (with_reducible refine Below.go ?_ hb24) | (with_reducible refine Below.go ?_ hb23) | (with_reducible refine Below.go ?_ hb22) | (with_reducible refine Below.go ?_ hb21) | exact Below.refl _ _ | exact hz0))⟩
  · have qg : (l.goFault x == 0) = false := by simp [hG]
    have HG := Lib.hid hG
    clear hG
    go_wp2_with fail
    refine (layGo_any l x _ _ _ ⟨_, _, _, _, _, _, _, _, _, _, rfl, x0, x1⟩ (MatAt.mk x2)).mono ?_
    rw [orNone_bad HG.out]
    rintro e w21 ⟨v5, rfl, ⟨a5, n5, k5, b5, o5, rfl, hn5, x5⟩, hb21⟩
    have hkw21 : Below w6.heap.size w6 w21 := (by repeat (first | fail | (with_reducible exact Below.refl _ _) | (with_reducible refine Below.al ?_ _) | (with_reducible refine Below.drN ?_ _) | (with_reducible refine Below.drew ?_) | (with_reducible refine Below.st ?_ ?_ _; rotate_left 1; (first | (dsimp only; omega) | omega | (simp; omega) | simp)) | (with_reducible refine Below.go ?_ hb21) | exact Below.refl _ _))
    replace B0 := B0.keep hkw21
    replace B0c := B0.cell
    replace B0f := B0.thawed
    replace B0z := B0.lt
    replace B0k := lt_add B0z
    replace B1 := B1.keep hkw21
    replace B1c := B1.cell
    replace B1f := B1.thawed
    replace B1z := B1.lt
    replace B1k := lt_add B1z
    replace x0 := x0.keep hkw21
    replace x1 := x1.keep hkw21
    replace x2 := x2.keep hkw21
    replace hh := hh.keep hkw21
    have hsw21 := hkw21.size
    go_wp2_with fail
    refine (refGoFault_any l x _ _ _ ⟨_, _, _, _, _, _, _, _, _, _, rfl, x0.alloc _, x1.alloc _⟩ (MatAt.mk (x2.alloc _))).mono ?_
    rintro e w22 ⟨rfl, hb22⟩
    have B13 := (Box.new w21 [.int .i64 0, .int .i64 0, .slice a5 n5 k5] 25).keep hb22
    have B13c := B13.cell
    have B13f := B13.thawed
    have B13z := B13.lt
    have B13k := lt_add B13z
    have hkw22 : Below w21.heap.size w21 w22 := (by repeat (first | fail | (with_reducible exact Below.refl _ _) | (with_reducible refine Below.al ?_ _) | (with_reducible refine Below.drN ?_ _) | (with_reducible refine Below.drew ?_) | (with_reducible refine Below.st ?_ ?_ _; rotate_left 1; (first | (dsimp only; omega) | omega | (simp; omega) | simp)) | (with_reducible refine Below.go ?_ hb22) | exact Below.refl _ _))
    replace x5 := x5.keep hkw22
    replace hh := hh.keep hkw22
    have hsw22 := hkw22.size
    go_wp2_with fail
    refine (error_same _ _ (hh.alloc _)).mono ?_
    rintro e w23 ⟨rfl, hb23⟩
    have B14 := (Box.new w22 [.int .i64 0, .int .i64 0, .slice none 0 0] 25).keep hb23
    have B14c := B14.cell
    have B14f := B14.thawed
    have B14z := B14.lt
    have B14k := lt_add B14z
    have hkw23 : Below w22.heap.size w22 w23 := (by repeat (first | fail | (with_reducible exact Below.refl _ _) | (with_reducible refine Below.al ?_ _) | (with_reducible refine Below.drN ?_ _) | (with_reducible refine Below.drew ?_) | (with_reducible refine Below.st ?_ ?_ _; rotate_left 1; (first | (dsimp only; omega) | omega | (simp; omega) | simp)) | (with_reducible refine Below.go ?_ hb23) | exact Below.refl _ _))
    replace B13 := B13.keep hkw23
    replace B13c := B13.cell
    replace B13f := B13.thawed
    replace B13z := B13.lt
    replace B13k := lt_add B13z
    replace x5 := x5.keep hkw23
    replace hh := hh.keep hkw23
    have hsw23 := hkw23.size
    go_wp2_with fail
    refine (matrices_same Mat.none _ _ _ (MatAt.mk x5) (none_at _)).mono ?_
    rintro e w24 ⟨rfl, hb24⟩
    go_wp2
    go_ret
    exact ⟨rfl, (by repeat (first | fail | (with_reducible exact Below.refl _ _) | (with_reducible exact hz0) | (with_reducible refine Below.al ?_ _) | (with_reducible refine Below.drN ?_ _) | (with_reducible refine Below.drew ?_) | (with_reducible refine Below.st ?_ ?_ _; rotate_left 1; (first | (dsimp only; omega) | omega | (simp; omega) | simp)) | (with_reducible refine Below.go ?_ hb24) | (with_reducible refine Below.go ?_ hb23) | (with_reducible refine Below.go ?_ hb22) | (with_reducible refine Below.go ?_ hb21) | exact Below.refl _ _ | exact hz0))⟩
end
theorem walk (l : Lay) (vl : Value) (x : Mat) (vx : Value) (i : Int) (w : World) (hl : LayAt w vl l) (hx : MatAt w vx x) (hi : (Lit.int .i64 i).wf = true) (hh : Handle w) :
    Calls Tryd.prog 9 #[vl, vx, .int .i64 i] w fun e w' => e = .returned (.bool true) ∧ Below w.heap.size w w' := by
  obtain ⟨a, n, k, b, o, a', n', k', b', o', rfl, x0, x1⟩ := hl
  obtain ⟨a2, n2, k2, b2, o2, rfl, x2⟩ := hx
  have hi' := bounds_i64 hi
  by_cases hf : l.fault = 0
  · by_cases h1 : i < 0 ∨ 12 < i
    · exact walk2 l x i _ _ _ _ _ _ _ _ _ _ _ _ _ _ _ w x0 x1 x2 hh hi' hf h1
    · by_cases ht : l.takes i
      · exact walk3 l x i _ _ _ _ _ _ _ _ _ _ _ _ _ _ _ w x0 x1 x2 hh hi' hf (by omega) (by omega) ht
      · exact walk4 l x i _ _ _ _ _ _ _ _ _ _ _ _ _ _ _ w x0 x1 x2 hh hi' hf (by omega) (by omega) ht
  · exact walk1 l x i _ _ _ _ _ _ _ _ _ _ _ _ _ _ _ w x0 x1 x2 hh hi' hf

theorem own : ownKnob Tryd.prog.godebug = none := by kernel_rfl
theorem laidOut : laidOutB Tryd.prog = true := by kernel_rfl
theorem et : Tryd.prog.globalNamed "errors.errorType" = some 0 := by kernel_rfl
theorem rt : (Tryd.prog.cutTypes.find? (·.1 == "internal/reflectlite.rtype")).map (·.2) = some 171 := by kernel_rfl
theorem oneRow : ((List.range 215).filter fun t => Tryd.prog.rowNamed t [101, 114, 114, 111, 114]) = [27] := by kernel_rfl
theorem tsize : Tryd.prog.types.size = 215 := by kernel_rfl
theorem handle_of_laid {W : World} (h : laidMetH Tryd.prog Rows.layerGoesRow.laid W) : Handle W := by
  have h' : laidMet Tryd.prog [] W ∧ handlesMet Tryd.prog Rows.layerGoesRow.laid W := h
  obtain ⟨name, u, ty, e1, e2, e3, e4, e5⟩ := h'.2 _ (List.mem_singleton.2 rfl)
  have en : name = [101, 114, 114, 111, 114] := (Option.some.inj e1).symm
  subst en
  obtain rfl := Option.some.inj (rt.symm.trans e2)
  have hm : ty ∈ (List.range 215).filter fun t => Tryd.prog.rowNamed t [101, 114, 114, 111, 114] := List.mem_filter.2 ⟨List.mem_range.2 (by rw [← tsize]; exact e3), e4⟩
  rw [oneRow] at hm
  obtain rfl := List.mem_singleton.1 hm
  have hh : typeHandle Tryd.prog 27 = .pointer (some ⟨1, 27, none⟩) := by kernel_rfl
  rw [hh] at e5
  simpa [Handle, handleV] using World.var?_cell et e5 0
noncomputable def laidWorld (os : Os) : World :=
  { World.holding Tryd.prog os ⟨#[], #[], []⟩ with heap := (World.holding Tryd.prog os ⟨#[], #[], []⟩).heap.modify 0 fun
      | .cells _ t frozen => .cells #[.iface 171 (.agg #[.pointer (some ⟨1, 27, none⟩)])] t frozen
      | o => o }
theorem laid_met (os : Os) : laidMetH Tryd.prog Rows.layerGoesRow.laid ((laidWorld os).forCall (fun _ _ => 0) ⟨#[], #[.agg #[.int .i64 0, .int .i64 0, .int .i64 0, .slice none 0 0, .int .i64 0, .int .i64 0, .slice none 0 0], .agg #[.int .i64 0, .int .i64 0, .slice none 0 0], .int .i64 0], []⟩).memory :=
  laidMetH_of_parts (laidMet_nil _ _) (by kernel_rfl)
theorem reads (os : Os) {H : Type} (enc : TypeId × Value → H) : ∃ places, DataW.whole enc Tryd.prog ((laidWorld os).forCall (fun _ _ => 0) ⟨#[], #[.agg #[.int .i64 0, .int .i64 0, .int .i64 0, .slice none 0 0, .int .i64 0, .int .i64 0, .slice none 0 0], .agg #[.int .i64 0, .int .i64 0, .slice none 0 0], .int .i64 0], []⟩).memory Tryd.f9.params.toList Rows.layerGoesSpec.vars false (#[.agg #[.int .i64 0, .int .i64 0, .int .i64 0, .slice none 0 0, .int .i64 0, .int .i64 0, .slice none 0 0], .agg #[.int .i64 0, .int .i64 0, .slice none 0 0], .int .i64 0] : Array Value).toList 8 = some ([.agg [.lit (.int .i64 0), .agg [.lit (.int .i64 0), .lit (.int .i64 0), .nil], .agg [.lit (.int .i64 0), .lit (.int .i64 0), .nil]], .agg [.lit (.int .i64 0), .lit (.int .i64 0), .nil], .lit (.int .i64 0)], [], places) :=
  ⟨[], by kernel_rfl⟩
set_option maxRecDepth 100000 in
set_option maxHeartbeats 1000000 in
theorem contract (H : Type) (enc : TypeId × Value → H) (W : World) (base : Nat) (args : Array Value) (ds gs : List (DataW H)) (before : List MemPlace)
    (hval0 : ∀ (j : Nat) t v, Tryd.f9.params[j]? = some t → args[j]? = some v → Value.okWide Tryd.prog W .any base t v)
    (hW : DataW.Whole enc Tryd.prog Tryd.f9.params.toList Rows.layerGoesSpec.vars false W args.toList ds gs before) (hh : Handle W) :
    Calls Tryd.prog 9 args W fun e W' => ∃ v, e = .returned v ∧ Rows.layerGoesSpec.post enc Tryd.prog Tryd.f9 false true false false W args v W' := by
  have hval := hval0
  have hW' := hW
  obtain ⟨p, q, hA0, hV, rfl, hfz, hnd⟩ := hW
  have hA : DataW.TrodAll enc Tryd.prog W 0 (fun _ => true) true Tryd.f9.params.toList args.toList ds p := hA0
  rw [Tryd.params9] at hA hval
  obtain ⟨v0, vs0, d0, ds0, p0, q0, hargs, rfl, rfl, h0, r0⟩ := trodAll_cons hA
  obtain ⟨v1, vs1, d1, ds1, p1, q1, rfl, rfl, rfl, h1, r1⟩ := trodAll_cons r0
  obtain ⟨v2, vs2, d2, ds2, p2, q2, rfl, rfl, rfl, h2, r2⟩ := trodAll_cons r1
  obtain ⟨rfl, rfl, rfl⟩ := trodAll_nil r2
  obtain rfl : args = #[v0, v1, v2] := by cases args; simp_all
  obtain ⟨rfl, rfl⟩ := trodVars_none hV
  have k0 := h0
  have lt0 : ∀ x ∈ p0, x.block < W.heap.size := by obtain ⟨m, hm⟩ := k0; exact DataW.trod_lt m _ _ _ hm
  have k1 := h1
  have lt1 : ∀ x ∈ p1, x.block < W.heap.size := by obtain ⟨m, hm⟩ := k1; exact DataW.trod_lt m _ _ _ hm
  have k2 := h2
  have lt2 : ∀ x ∈ p2, x.block < W.heap.size := by obtain ⟨m, hm⟩ := k2; exact DataW.trod_lt m _ _ _ hm
  obtain ⟨a0, w0⟩ := open_Layer (hval 0 70 v0 rfl rfl) h0
  obtain ⟨a1, w1⟩ := open_mat (hval 1 25 v1 rfl rfl) h1
  obtain ⟨a2, rfl, rfl, rfl, w2⟩ := open_int Tryd.underlying3 (hval 2 3 v2 rfl rfl) h2
  clear hA0 hval0
  refine (walk a0 v0 a1 v1 a2 W w0 w1 w2 hh).mono fun e W' ⟨he, bel⟩ => ?_
  subst he
  exact ⟨_, rfl, _, _, _, [], _, [], hW', trodAll_mk1 (shut_bool Tryd.underlying4 _), (trodAll_cons_mk (Below.trod laidOut (by kernel_rfl) (of_decide_eq_true (by kernel_rfl)) k0 bel lt0) (trodAll_cons_mk (Below.trod laidOut (by kernel_rfl) (of_decide_eq_true (by kernel_rfl)) k1 bel lt1) (trodAll_cons_mk (Below.trod laidOut (by kernel_rfl) (of_decide_eq_true (by kernel_rfl)) k2 bel lt2) trodAll_mk0))), rfl, bel.frame _, fun h => by cases h⟩

set_option maxRecDepth 100000 in
theorem lifted (os : Os) (started : os.Started) (H : Type) (enc : TypeId × Value → H) (F : Stop.Interp) :
    ReturnsInHanded {} Tryd.checked os 9 .any ((OpenSpec.ofChange Rows.layerGoesSpec).preRow enc Tryd.prog Tryd.f9 Rows.layerGoesRow.domain false Rows.layerGoesRow.laid) (((OpenSpec.ofChange Rows.layerGoesSpec).at F).post enc Tryd.prog Tryd.f9 false true false false) := by
  obtain ⟨places, hx⟩ := reads os enc
  refine returnsInHanded_of_row (C := Tryd.checked) (s := OpenSpec.ofChange Rows.layerGoesSpec) own started (by kernel_rfl) Tryd.func9
    (witness_row_at (enc := enc) (C := Tryd.checked) false (laidWorld os) #[.agg #[.int .i64 0, .int .i64 0, .int .i64 0, .slice none 0 0, .int .i64 0, .int .i64 0, .slice none 0 0], .agg #[.int .i64 0, .int .i64 0, .slice none 0 0], .int .i64 0] rfl (by kernel_rfl) (by kernel_rfl) (by kernel_rfl)
      (OpenSpec.preRow_of_cond 8 hx (by kernel_rfl) (fun k hk => by cases hk) (by kernel_rfl) (laid_met os))) ?_
  intro W base args ds gs before hval hW _ _ _ hL _ _
  exact contract H enc W base args ds gs before hval hW (handle_of_laid hL)

theorem said : Rows.LayerGoesSaid :=
  OpenClaim.holds_of_cond 9 Tryd.f9 rfl rfl rfl rfl rfl rfl rfl ⟨rfl, rfl, rfl, rfl, rfl⟩ rfl rfl rfl rfl rfl (by kernel_rfl) Tryd.func9 (by kernel_rfl)
    (of_decide_eq_true (by kernel_rfl)) (by unfold Func.isWrapper; first | (rw [if_pos (by decide +kernel)]; kernel_rfl) | (rw [if_neg (by decide +kernel)]; exact ⟨rfl, rfl⟩))
    (fun os started H enc _ F => by rw [OpenClaim.pre_eq_preRow]; exact lifted os started H enc F)
theorem plain (f : FuncId) (fn : Func) (hf : Tryd.pinned.checked.prog.funcNamed Rows.layerGoesRow.func = some f) (hfn : Tryd.pinned.checked.prog.funcs[f]? = some fn) :
    Rows.layerGoesCard.stood.looks = Tryd.pinned.checked.prog.looks [] ∧ ∀ (j : Nat) t, fn.params[j]? = some t → Tryd.pinned.checked.prog.wantsStandIn t = false := by
  obtain rfl : f = 9 := Option.some.inj ((show Tryd.prog.funcNamed Rows.layerGoesRow.func = some 9 by kernel_rfl).symm.trans hf) |>.symm
  obtain rfl : fn = Tryd.f9 := (Option.some.inj (Tryd.func9.symm.trans hfn)).symm
  refine ⟨by kernel_rfl, fun j t ht => ?_⟩
  rw [Tryd.params9] at ht
  have hm := Array.mem_of_getElem? ht
  have hc : t = 70 ∨ t = 25 ∨ t = 3 := by simpa using hm
  rcases hc with rfl | rfl | rfl
  · exact (show Tryd.prog.wantsStandIn 70 = false by kernel_rfl)
  · exact (show Tryd.prog.wantsStandIn 25 = false by kernel_rfl)
  · exact (show Tryd.prog.wantsStandIn 3 = false by kernel_rfl)
theorem proved : Rows.LayerGoesCardSaid :=
  Claim7.holds_tied_plain_at .later [] _ _ _ _ said (fun _ h => by cases h) (by kernel_rfl) (fun _ h => by cases h) layerGoes_row_tie rfl ⟨rfl, rfl⟩ (by kernel_rfl) rfl plain (by kernel_rfl)
#print axioms proved

end Go.Proofs.YtopckalgpeapnaaDoor.lawLayerGoes
