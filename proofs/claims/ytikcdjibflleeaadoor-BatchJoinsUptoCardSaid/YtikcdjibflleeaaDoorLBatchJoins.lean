/- BatchJoins, where what it reads is of bulk at most 1048576: any batches are joined as the document says, or what is wrong is told: the law returns true, and the input reads as it did. -/
import Derived.Test.YtikcdjibflleeaaDoorCards
import Derived.Test.YtikcdjibflleeaaDoorTie
import Derived.Test.YtikcdjibflleeaaDoorUpto
import Derived.Test.YtikcdjibflleeaaDoorBatch6
import Derived.Test.YtikcdjibflleeaaDoorRBatch1
import Derived.Test.YtikcdjibflleeaaDoorTold
import Derived.Test.YtikcdjibflleeaaDoorUni
import Derived.Test.YtikcdjibflleeaaDoorGrads
import Derived.Test.YtikcdjibflleeaaDoorAppd
import Derived.Deep.DeepHandedRow
import Derived.Deep.CutBlock
import Derived.Deep.DeepCutAuto
import Derived.BigQuiet
set_option linter.unusedVariables false
set_option linter.unusedSimpArgs false
set_option linter.unusedSectionVars false
namespace Gal
open Go Go.RowKit
theorem rows_same {ds : List Bat} {n : Nat} (hn : ds.length = n) (hz : batFaultTo ds n = 0) : ∀ k, k ≤ n → rowsTo (wantsTo ds n) k = rowsTo (insTo ds n) k := by
  intro k
  induction k with
  | zero => exact fun _ => rfl
  | succ k ih =>
    intro hk
    rw [rowsTo_succ, rowsTo_succ, ih (by omega), insTo_mx (by omega), wantsTo_mx (by omega), (Bat.faults (batFaultTo_all hz k (by omega))).2.2.1]
/-- the first t have as many columns as the first one, or not all have -/
def ColsSo (ms : List Mat) (t : Nat) (x : Int) : Prop := (x = 0 ∧ ∀ j, j < t → (mx ms j).cols = (mx ms 0).cols) ∨ (x = 2 ∧ ¬ sameCols ms)
theorem ColsSo.zero (ms : List Mat) : ColsSo ms 0 0 := Or.inl ⟨rfl, fun j hj => absurd hj (Nat.not_lt_zero _)⟩
theorem ColsSo.next {ms : List Mat} {t : Nat} (h : ∀ j, j < t → (mx ms j).cols = (mx ms 0).cols) (hc : (mx ms t).cols = (mx ms 0).cols) : ColsSo ms (t + 1) 0 := Or.inl ⟨rfl, fun j hj => by
  rcases Nat.lt_or_ge j t with g | g
  · exact h j g
  · obtain rfl : j = t := by omega
    exact hc⟩
theorem ColsSo.bad {ms : List Mat} {t : Nat} (k : Nat) (ht : t < ms.length) (hc : (mx ms t).cols ≠ (mx ms 0).cols) : ColsSo ms k 2 := Or.inr ⟨rfl, fun hs => hc (hs t ht)⟩
/-- all stacked, or not -/
def StackSo (w : World) (base : Nat) (ms : List Mat) (n : Nat) (x r c : Int) (v : Value) : Prop :=
  (x = 0 ∧ sameCols ms ∧ r = rowsTo ms n ∧ c = colsTo ms n ∧ ∃ av kv bv, v = .slice av (cellsTo ms n).length kv ∧ (0 < (cellsTo ms n).length → base ≤ bv) ∧ IntsAt w av (cellsTo ms n).length kv bv 0 (cellsTo ms n)) ∨ (x = 2 ∧ ¬ sameCols ms)
theorem stack_all {ms : List Mat} (h : firstFault ms = 0) (h0 : ms.length ≠ 0) : stackFault ms = if ¬ sameCols ms then 2 else if 24 < rowsTo ms ms.length then 3 else 0 := by
  unfold stackFault
  rw [if_neg (by simp [h]), if_neg h0]
end Gal
namespace Go.Proofs.YtikcdjibflleeaaDoor.lawBatchJoins
open Go.ChangeShapes Go.WideShapes Go.ChangeAt Go.RowKit Gal
set_option maxRecDepth 100000
set_option maxHeartbeats 2000000
/-- a value reads as a list of batches -/
def LBatsAt (w : World) (v : Value) (ds : List Bat) : Prop := ∃ a n k b o, v = .slice a n k ∧ RowAt Form.bat w anyB a n k b o ds
theorem open_lBatch_upto {H : Type} {enc : TypeId × Value → H} {w : World} {base b0 : Nat} {r : Reach} {spare : Nat → Bool} {held : Bool} {v : Value} {d : DataW H} {p : List MemPlace}
    (hv : Value.okWide Tryd.prog w r b0 48 v) (h : DataW.Trod enc Tryd.prog w base spare held 48 v d p) : ∃ ds : List Bat, LBatsAt w v ds ∧ ds.length ≤ Rows.uptoBulk d := by
  obtain ⟨a, n, cap, b, off, xs, e, hr, hd⟩ := opens_bat.top_slice Tryd.underlying48 (by kernel_rfl) (by decide) hv h
  exact ⟨xs, ⟨a, n, cap, b, off, e, hr⟩, by rw [hr.len]; exact len_bulk hd⟩
theorem walk (ds : List Bat) (v : Value) (w : World) (h : LBatsAt w v ds) (hh : Handle w) (bk : ds.length ≤ 1048576) :
    Calls Tryd.prog 5 #[v] w fun e w' => e = .returned (.bool true) ∧ Below w.heap.size w w' := by
  obtain ⟨a, n, k, b, o, rfl, r⟩ := h
  have HLEN := Lib.hid r.len
  have hmx := r.max
  unfold maxLen at hmx
  have RW : Hid (RowAt Form.bat w anyB a n k b o ds) := Lib.hid r
  have hn : n ≤ 1048576 := by rw [← r.len]; exact bk
  obtain ⟨i0, hi, his0, his1, his2⟩ := info_parts info_int
  clear bk
  obtain ⟨J, hJ⟩ : ∃ J, joined ds = J := ⟨_, rfl⟩
  have HJ := Lib.hid hJ
  clear hJ
  go_enter Tryd.func5, Tryd.ntmps5
  go_wp2_with fail
  refine (batchJoin_all ds anyB a n k b o w r hn).mono ?_
  rw [HJ.out]
  rintro e w1 ⟨v1, rfl, ⟨a1, n1, k1, b1, o1, a2, n2, k2, b2, o2, rfl, x1, x2⟩, hb1⟩
  replace hh := hh.keep hb1
  have lx1 := x1.lt
  have lx2 := x2.lt
  clear r
  by_cases h0 : n = 0
  · have HS : Hid (joinFault ds = 2) := Lib.hid (by unfold joinFault; rw [if_pos (by rw [HLEN.out]; exact h0)])
    have HNE : Hid ((2 : Int) ≠ 0) := Lib.hid (by decide)
    have g2 : ((n : Int) == 0) = true := by simp [h0]
    have g3 : ¬ (0 : Int) < (n : Int) := by omega
    clear h0
    go_upto_block 0 with fail
    obtain ⟨wA, hwA, B3, hh, x1, x2, hbA⟩ : ∃ wA, w1.alloc (.cells #[.int .i64 J.I.rows, .int .i64 J.I.cols, .slice a1 n1 k1, .int .i64 J.W.rows, .int .i64 J.W.cols, .slice a2 n2 k2] 50) = wA ∧ Box wA w1.heap.size [.int .i64 J.I.rows, .int .i64 J.I.cols, .slice a1 n1 k1, .int .i64 J.W.rows, .int .i64 J.W.cols, .slice a2 n2 k2] 50 ∧ Handle wA ∧ IntsAt wA a1 n1 k1 b1 o1 J.I.cells ∧ IntsAt wA a2 n2 k2 b2 o2 J.W.cells ∧ Below w.heap.size w wA := ⟨_, rfl, Box.new _ _ _, hh.alloc _, x1.alloc _, x2.alloc _, (by repeat (first | fail | (with_reducible exact Below.refl _ _) | (with_reducible refine Below.al ?_ _) | (with_reducible refine Below.drN ?_ _) | (with_reducible refine Below.drew ?_) | (with_reducible refine Below.st ?_ ?_ _; rotate_left 1; (first | (dsimp only; omega) | omega | (simp; omega) | simp)) | (with_reducible refine Below.go ?_ hb1) | exact Below.refl _ _))⟩
    rw [hwA]
    clear hwA hb1
    have l1 : 0 < n1 → b1 < wA.heap.size := x1.lt
    have l2 : 0 < n2 → b2 < wA.heap.size := x2.lt
    have hz1 : w1.heap.size < wA.heap.size := B3.lt
    go_wp2_with fail
    go_loopw [5, 6] (fun e i wr => e = .int .i64 2 ∧ i = .int .i64 0 ∧ wA = wr) (fun _ _ _ => 0)
    case atStart => exact ⟨rfl, rfl, rfl⟩
    case round =>
      obtain ⟨rfl, rfl, rfl⟩ := hrel
      have HJN : Hid (J = ⟨Mat.none, Mat.none⟩) := Lib.hid (by rw [← HJ.out]; exact joined_bad (by rw [HS.out]; exact HNE.out))
      go_wp2_with fail
      obtain ⟨wB, hwB, B7, B3, hh, x1, x2, hbB, hbB'⟩ : ∃ wB, wA.alloc (.cells #[.int .i64 0, .int .i64 0, .slice none 0 0, .int .i64 0, .int .i64 0, .slice none 0 0] 50) = wB ∧ Box wB wA.heap.size [.int .i64 0, .int .i64 0, .slice none 0 0, .int .i64 0, .int .i64 0, .slice none 0 0] 50 ∧ Box wB w1.heap.size [.int .i64 J.I.rows, .int .i64 J.I.cols, .slice a1 n1 k1, .int .i64 J.W.rows, .int .i64 J.W.cols, .slice a2 n2 k2] 50 ∧ Handle wB ∧ IntsAt wB a1 n1 k1 b1 o1 J.I.cells ∧ IntsAt wB a2 n2 k2 b2 o2 J.W.cells ∧ Below w.heap.size w wB ∧ Below wA.heap.size wA wB := ⟨_, rfl, Box.new _ _ _, (by repeat (first | fail | (with_reducible exact B3) | (with_reducible refine Box.alloc ?_ _) | (with_reducible refine Box.drewN ?_ _) | (with_reducible refine Box.drew ?_) | (with_reducible refine Box.far ?_ ?_ _; rotate_left 1; (first | (dsimp only; omega) | omega | (simp; omega) | simp)) | exact B3)), hh.alloc _, (by repeat (first | fail | (with_reducible exact x1) | (with_reducible refine IntsAt.alloc ?_ _) | (with_reducible refine IntsAt.drewN ?_ _) | (with_reducible refine IntsAt.drew ?_) | (with_reducible refine IntsAt.set ?_ ?_ _; rotate_left 1; (intro h0; first | (dsimp only; omega) | omega | (simp; omega) | simp)) | exact x1)), (by repeat (first | fail | (with_reducible exact x2) | (with_reducible refine IntsAt.alloc ?_ _) | (with_reducible refine IntsAt.drewN ?_ _) | (with_reducible refine IntsAt.drew ?_) | (with_reducible refine IntsAt.set ?_ ?_ _; rotate_left 1; (intro h0; first | (dsimp only; omega) | omega | (simp; omega) | simp)) | exact x2)), (by repeat (first | fail | (with_reducible exact Below.refl _ _) | (with_reducible exact hbA) | (with_reducible refine Below.al ?_ _) | (with_reducible refine Below.drN ?_ _) | (with_reducible refine Below.drew ?_) | (with_reducible refine Below.st ?_ ?_ _; rotate_left 1; (first | (dsimp only; omega) | omega | (simp; omega) | simp)) | exact Below.refl _ _ | exact hbA)), (by repeat (first | fail | (with_reducible exact Below.refl _ _) | (with_reducible refine Below.al ?_ _) | (with_reducible refine Below.drN ?_ _) | (with_reducible refine Below.drew ?_) | (with_reducible refine Below.st ?_ ?_ _; rotate_left 1; (first | (dsimp only; omega) | omega | (simp; omega) | simp)) | exact Below.refl _ _))⟩
      rw [hwB]
      clear hwB
      have hz7 : wA.heap.size < wB.heap.size := B7.lt
      have hzw := hbA.size
      have B3 := B3
      have B3c := B3.cell
      have B3f := B3.thawed
      have B3z := B3.lt
      have B3k := lt_add B3z
      have B7 := B7
      have B7c := B7.cell
      have B7f := B7.thawed
      have B7z := B7.lt
      have B7k := lt_add B7z
      go_loopw [5, 8] (fun e i wr => e = .int .i64 (2) ∧ i = .int .i64 0 ∧ wB = wr) (fun _ _ _ => 0)
      case atStart => exact ⟨rfl, rfl, rfl⟩
      case round =>
        obtain ⟨rfl, rfl, rfl⟩ := hrel
        have HJN : Hid (J = ⟨Mat.none, Mat.none⟩) := Lib.hid (by rw [← HJ.out]; exact joined_bad (by rw [HS.out]; exact HNE.out))
        go_wp2_with fail
        go_loopw [5, 9] (fun e i wr => e = .int .i64 (2) ∧ i = .int .i64 0 ∧ wB = wr) (fun _ _ _ => 0)
        case atStart => exact ⟨rfl, rfl, rfl⟩
        case round =>
          obtain ⟨rfl, rfl, rfl⟩ := hrel
          go_wp2_with fail
          have hhl := hh.lt
          obtain ⟨wC, hwC, C7, C3, hhC, xC, yC, hbC⟩ : ∃ wC, ((((((wB.setCell ⟨wA.heap.size, 0, none⟩ (.int .i64 0)).setCell ⟨wA.heap.size, 1, none⟩ (.int .i64 0)).setCell ⟨wA.heap.size, 2, none⟩ (.slice none 0 0)).setCell ⟨wA.heap.size, 3, none⟩ (.int .i64 0)).setCell ⟨wA.heap.size, 4, none⟩ (.int .i64 0)).setCell ⟨wA.heap.size, 5, none⟩ (.slice none 0 0)) = wC ∧ Box wC wA.heap.size [.int .i64 0, .int .i64 0, .slice none 0 0, .int .i64 0, .int .i64 0, .slice none 0 0] 50 ∧ Box wC w1.heap.size [.int .i64 J.I.rows, .int .i64 J.I.cols, .slice a1 n1 k1, .int .i64 J.W.rows, .int .i64 J.W.cols, .slice a2 n2 k2] 50 ∧ Handle wC ∧ IntsAt wC a1 n1 k1 b1 o1 J.I.cells ∧ IntsAt wC a2 n2 k2 b2 o2 J.W.cells ∧ Below w.heap.size w wC := by
            have hf : Far (fun b => b = wA.heap.size) wB ((((((wB.setCell ⟨wA.heap.size, 0, none⟩ (.int .i64 0)).setCell ⟨wA.heap.size, 1, none⟩ (.int .i64 0)).setCell ⟨wA.heap.size, 2, none⟩ (.slice none 0 0)).setCell ⟨wA.heap.size, 3, none⟩ (.int .i64 0)).setCell ⟨wA.heap.size, 4, none⟩ (.int .i64 0)).setCell ⟨wA.heap.size, 5, none⟩ (.slice none 0 0)) :=
              ((((((Far.refl (fun b => b = wA.heap.size) wB).st (fun _ => rfl) _).st (fun _ => rfl) _).st (fun _ => rfl) _).st (fun _ => rfl) _).st (fun _ => rfl) _).st (fun _ => rfl) _
            exact ⟨_, rfl, (((((B7.set 0 _).set 1 _).set 2 _).set 3 _).set 4 _).set 5 _, B3.farS hf (by intro e; omega), hh.farS hf (by intro e; omega), x1.farS hf (fun h e => by have := l1 h; omega), x2.farS hf (fun h e => by have := l2 h; omega), Far.toBelow hbB hf (by omega) (fun k hk => by subst hk; omega)⟩
          rw [hwC]
          clear hwC
          refine (error_eq _ _ _ (by assumption) HS.out).mono ?_
          rintro e wy ⟨rfl, hby⟩
          have hky : Below wC.heap.size wC wy := (by repeat (first | fail | (with_reducible exact Below.refl _ _) | (with_reducible refine Below.al ?_ _) | (with_reducible refine Below.drN ?_ _) | (with_reducible refine Below.drew ?_) | (with_reducible refine Below.st ?_ ?_ _; rotate_left 1; (first | (dsimp only; omega) | omega | (simp; omega) | simp)) | (with_reducible refine Below.go ?_ hby) | exact Below.refl _ _))
          have C3 := C3.keep hky
          have C3c := C3.cell
          have C3f := C3.thawed
          have C3z := C3.lt
          have C3k := lt_add C3z
          have C7 := C7.keep hky
          have C7c := C7.cell
          have C7f := C7.thawed
          have C7z := C7.lt
          have C7k := lt_add C7z
          replace xC := xC.keep hky
          replace yC := yC.keep hky
          go_wp2_with fail
          refine (batches_same [J] anyB anyB _ _ 1 1 1 1 _ _ 0 0 _ (row_one (b := wy.heap.size) (cs := [.int .i64 J.I.rows, .int .i64 J.I.cols, .slice a1 n1 k1, .int .i64 J.W.rows, .int .i64 J.W.cols, .slice a2 n2 k2]) (T := 50) (by repeat (first | fail | (with_reducible refine (Box.new' _ _ _ _ ?_); (simp; done)) | (with_reducible refine Box.alloc ?_ _) | (with_reducible refine Box.drewN ?_ _) | (with_reducible refine Box.drew ?_) | (with_reducible refine Box.far ?_ ?_ _; rotate_left 1; (first | (dsimp only; omega) | omega | (simp; omega) | simp)))) (reads_bat (d := J) (fun _ => trivial) (show IntsAt _ a1 n1 k1 b1 o1 J.I.cells from (by repeat (first | fail | (with_reducible exact xC) | (with_reducible refine IntsAt.alloc ?_ _) | (with_reducible refine IntsAt.drewN ?_ _) | (with_reducible refine IntsAt.drew ?_) | (with_reducible refine IntsAt.set ?_ ?_ _; rotate_left 1; (intro h0; first | (dsimp only; omega) | omega | (simp; omega) | simp)) | exact xC))) (fun _ => trivial) (show IntsAt _ a2 n2 k2 b2 o2 J.W.cells from (by repeat (first | fail | (with_reducible exact yC) | (with_reducible refine IntsAt.alloc ?_ _) | (with_reducible refine IntsAt.drewN ?_ _) | (with_reducible refine IntsAt.drew ?_) | (with_reducible refine IntsAt.set ?_ ?_ _; rotate_left 1; (intro h0; first | (dsimp only; omega) | omega | (simp; omega) | simp)) | exact yC)))) trivial) (row_one (b := wy.heap.size + 1) (cs := [.int .i64 0, .int .i64 0, .slice none 0 0, .int .i64 0, .int .i64 0, .slice none 0 0]) (T := 50) (by repeat (first | fail | (with_reducible refine (Box.new' _ _ _ _ ?_); (simp; done)) | (with_reducible refine Box.alloc ?_ _) | (with_reducible refine Box.drewN ?_ _) | (with_reducible refine Box.drew ?_) | (with_reducible refine Box.far ?_ ?_ _; rotate_left 1; (first | (dsimp only; omega) | omega | (simp; omega) | simp)))) (by rw [HJN.out]; exact reads_bat (d := ⟨Mat.none, Mat.none⟩) (n := 0) (n' := 0) (b := 0) (b' := 0) (o := 0) (o' := 0) (fun _ => trivial) (ints_none _) (fun _ => trivial) (ints_none _)) trivial)).mono ?_
          rintro e wz ⟨rfl, hbz⟩
          have hbe : Below w.heap.size w wz := (by repeat (first | fail | (with_reducible exact Below.refl _ _) | (with_reducible exact hbC) | (with_reducible refine Below.al ?_ _) | (with_reducible refine Below.drN ?_ _) | (with_reducible refine Below.drew ?_) | (with_reducible refine Below.st ?_ ?_ _; rotate_left 1; (first | (dsimp only; omega) | omega | (simp; omega) | simp)) | (with_reducible refine Below.go ?_ hbz) | (with_reducible refine Below.go ?_ hby) | exact Below.refl _ _ | exact hbC))
          go_wp2
          go_ret
          exact ⟨rfl, hbe⟩
  · have g2 : ((n : Int) == 0) = false := by simp; omega
    have HN0 : Hid (ds.length ≠ 0) := Lib.hid (by rw [HLEN.out]; exact h0)
    have hnp : 0 < n := by omega
    clear h0
    go_upto_block 0 with fail
    obtain ⟨w2, hw2, B3, hh, x1, x2, hb2⟩ : ∃ w2, w1.alloc (.cells #[.int .i64 J.I.rows, .int .i64 J.I.cols, .slice a1 n1 k1, .int .i64 J.W.rows, .int .i64 J.W.cols, .slice a2 n2 k2] 50) = w2 ∧ Box w2 w1.heap.size [.int .i64 J.I.rows, .int .i64 J.I.cols, .slice a1 n1 k1, .int .i64 J.W.rows, .int .i64 J.W.cols, .slice a2 n2 k2] 50 ∧ Handle w2 ∧ IntsAt w2 a1 n1 k1 b1 o1 J.I.cells ∧ IntsAt w2 a2 n2 k2 b2 o2 J.W.cells ∧ Below w.heap.size w w2 := ⟨_, rfl, Box.new _ _ _, hh.alloc _, x1.alloc _, x2.alloc _, (by repeat (first | fail | (with_reducible exact Below.refl _ _) | (with_reducible refine Below.al ?_ _) | (with_reducible refine Below.drN ?_ _) | (with_reducible refine Below.drew ?_) | (with_reducible refine Below.st ?_ ?_ _; rotate_left 1; (first | (dsimp only; omega) | omega | (simp; omega) | simp)) | (with_reducible refine Below.go ?_ hb1) | exact Below.refl _ _))⟩
    rw [hw2]
    clear hw2 hb1
    go_cut [5] (fun e wx => e = .int .i64 (batFaultTo ds n) ∧ Below w2.heap.size w2 wx)
    case first =>
      go_wp2_with fail
      go_loopw [5, 6] (fun e i wr => ∃ (t : Nat) (x : Int), t ≤ n ∧ i = .int .i64 t ∧ e = .int .i64 x ∧ Hid (x = batFaultTo ds t) ∧ Below w2.heap.size w2 wr) (fun _ i _ => n - (intOf i).toNat)
      case atStart => exact ⟨0, 0, Nat.zero_le _, rfl, rfl, Lib.hid rfl, Below.refl _ _⟩
      case round =>
        obtain ⟨t, x, ht, rfl, rfl, HX, hbr⟩ := hrel
        have hbw : Below w.heap.size w wr := (by repeat (first | fail | (with_reducible exact Below.refl _ _) | (with_reducible exact hb2) | (with_reducible refine Below.al ?_ _) | (with_reducible refine Below.drN ?_ _) | (with_reducible refine Below.drew ?_) | (with_reducible refine Below.st ?_ ?_ _; rotate_left 1; (first | (dsimp only; omega) | omega | (simp; omega) | simp)) | (with_reducible refine Below.go ?_ hbr) | exact Below.refl _ _ | exact hb2))
        by_cases hlt : t < n
        · have hltI : (t : Int) < (n : Int) := by omega
          by_cases hx : x = 0
          · subst hx
            obtain rfl := RW.out.ptr hnp
            obtain ⟨p1, p2, p3, p4, p5, p6, p7, p8, p9, p10, c0, c1, c2, c3, c4, c5, y0, y1⟩ := bat_cells (RW.out.keep hbw) (bx_get (ds := ds) (i := t) (by rw [HLEN.out]; exact hlt))
            go_wp2_with fail
            refine (refBatchFault_any (bx ds t) _ _ ⟨_, _, _, _, _, _, _, _, _, _, rfl, y0, y1⟩).mono ?_
            rintro e w3 ⟨rfl, hb3⟩
            have hbe : Below w2.heap.size w2 w3 := (by repeat (first | fail | (with_reducible exact Below.refl _ _) | (with_reducible exact hbr) | (with_reducible refine Below.al ?_ _) | (with_reducible refine Below.drN ?_ _) | (with_reducible refine Below.drew ?_) | (with_reducible refine Below.st ?_ ?_ _; rotate_left 1; (first | (dsimp only; omega) | omega | (simp; omega) | simp)) | (with_reducible refine Below.go ?_ hb3) | exact Below.refl _ _ | exact hbr))
            go_wp2_with fail
            go_roundw
            case rel => exact ⟨t + 1, _, by omega, by go_num, rfl, Lib.hid (batFaultTo_next HX.out.symm).symm, hbe⟩
            case measure => simp [intOf]; omega
          · have g1 : (x == 0) = false := by simp [hx]
            have HE1 : Hid (x = batFaultTo ds n) := Lib.hid (by rw [HX.out]; exact (batFaultTo_stays ht (by rw [← HX.out]; exact hx)).symm)
            clear hx HX
            go_wp2_with fail
            go_meet
            exact ⟨by rw [HE1.out], hbr⟩
        · have hltI : ¬ (t : Int) < (n : Int) := by omega
          obtain rfl : t = n := by omega
          have HE1 := HX
          clear HX
          go_wp2_with fail
          go_meet
          exact ⟨by rw [HE1.out], hbr⟩
    case rest =>
      obtain ⟨rfl, hbc⟩ := hcut
      obtain ⟨wA, rfl⟩ : ∃ wA, wA = wc := ⟨_, rfl⟩
      have hz1 : w1.heap.size < wA.heap.size := by have := hbc.size; have := B3.lt; omega
      replace hh := hh.keep hbc
      replace x1 := x1.keep hbc
      replace x2 := x2.keep hbc
      replace B3 := B3.keep hbc
      have l1 : 0 < n1 → b1 < wA.heap.size := x1.lt
      have l2 : 0 < n2 → b2 < wA.heap.size := x2.lt
      have hbA : Below w.heap.size w wA := (by repeat (first | fail | (with_reducible exact Below.refl _ _) | (with_reducible exact hb2) | (with_reducible refine Below.al ?_ _) | (with_reducible refine Below.drN ?_ _) | (with_reducible refine Below.drew ?_) | (with_reducible refine Below.st ?_ ?_ _; rotate_left 1; (first | (dsimp only; omega) | omega | (simp; omega) | simp)) | (with_reducible refine Below.go ?_ hbc) | exact Below.refl _ _ | exact hb2))
      clear hbc hb2
      by_cases hf : batFaultTo ds n = 0
      · have HZ := Lib.hid hf
        rw [hf]
        clear hf
        have HFI : Hid (firstFault (insTo ds n) = 0) := Lib.hid (insTo_first HLEN.out HZ.out)
        have HFW : Hid (firstFault (wantsTo ds n) = 0) := Lib.hid (wantsTo_first HLEN.out HZ.out)
        have HTI : Hid (∀ k, k ≤ (insTo ds n).length → 0 ≤ rowsTo (insTo ds n) k ∧ rowsTo (insTo ds n) k ≤ 24 * k ∧ (cellsTo (insTo ds n) k).length ≤ 288 * k) := Lib.hid (to_bd HFI.out)
        have HTW : Hid (∀ k, k ≤ (wantsTo ds n).length → 0 ≤ rowsTo (wantsTo ds n) k ∧ rowsTo (wantsTo ds n) k ≤ 24 * k ∧ (cellsTo (wantsTo ds n) k).length ≤ 288 * k) := Lib.hid (to_bd HFW.out)
        have HJF : Hid (joinFault ds = if stackFault (insTo ds n) ≠ 0 then stackFault (insTo ds n) else stackFault (wantsTo ds n)) := Lib.hid (by unfold joinFault; rw [HLEN.out, if_neg (by have := HN0.out; rw [HLEN.out] at this; exact this), if_neg (by rw [HZ.out]; simp)])
        have HSI : Hid (stackFault (insTo ds n) = if ¬ sameCols (insTo ds n) then 2 else if 24 < rowsTo (insTo ds n) n then 3 else 0) := Lib.hid (by rw [stack_all HFI.out (by rw [insTo_length]; omega), insTo_length])
        have HSW : Hid (stackFault (wantsTo ds n) = if ¬ sameCols (wantsTo ds n) then 2 else if 24 < rowsTo (insTo ds n) n then 3 else 0) := Lib.hid (by rw [stack_all HFW.out (by rw [wantsTo_length]; omega), wantsTo_length, rows_same HLEN.out HZ.out n (Nat.le_refl _)])
        obtain rfl := RW.out.ptr hnp
        have hbs := RW.out.lt hnp
        go_upto_block 2 with fail
        obtain ⟨wB, hwB, B7, B3, hh, x1, x2, hbB, hbB'⟩ : ∃ wB, wA.alloc (.cells #[.int .i64 0, .int .i64 0, .slice none 0 0, .int .i64 0, .int .i64 0, .slice none 0 0] 50) = wB ∧ Box wB wA.heap.size [.int .i64 0, .int .i64 0, .slice none 0 0, .int .i64 0, .int .i64 0, .slice none 0 0] 50 ∧ Box wB w1.heap.size [.int .i64 J.I.rows, .int .i64 J.I.cols, .slice a1 n1 k1, .int .i64 J.W.rows, .int .i64 J.W.cols, .slice a2 n2 k2] 50 ∧ Handle wB ∧ IntsAt wB a1 n1 k1 b1 o1 J.I.cells ∧ IntsAt wB a2 n2 k2 b2 o2 J.W.cells ∧ Below w.heap.size w wB ∧ Below wA.heap.size wA wB := ⟨_, rfl, Box.new _ _ _, (by repeat (first | fail | (with_reducible exact B3) | (with_reducible refine Box.alloc ?_ _) | (with_reducible refine Box.drewN ?_ _) | (with_reducible refine Box.drew ?_) | (with_reducible refine Box.far ?_ ?_ _; rotate_left 1; (first | (dsimp only; omega) | omega | (simp; omega) | simp)) | exact B3)), hh.alloc _, (by repeat (first | fail | (with_reducible exact x1) | (with_reducible refine IntsAt.alloc ?_ _) | (with_reducible refine IntsAt.drewN ?_ _) | (with_reducible refine IntsAt.drew ?_) | (with_reducible refine IntsAt.set ?_ ?_ _; rotate_left 1; (intro h0; first | (dsimp only; omega) | omega | (simp; omega) | simp)) | exact x1)), (by repeat (first | fail | (with_reducible exact x2) | (with_reducible refine IntsAt.alloc ?_ _) | (with_reducible refine IntsAt.drewN ?_ _) | (with_reducible refine IntsAt.drew ?_) | (with_reducible refine IntsAt.set ?_ ?_ _; rotate_left 1; (intro h0; first | (dsimp only; omega) | omega | (simp; omega) | simp)) | exact x2)), (by repeat (first | fail | (with_reducible exact Below.refl _ _) | (with_reducible exact hbA) | (with_reducible refine Below.al ?_ _) | (with_reducible refine Below.drN ?_ _) | (with_reducible refine Below.drew ?_) | (with_reducible refine Below.st ?_ ?_ _; rotate_left 1; (first | (dsimp only; omega) | omega | (simp; omega) | simp)) | exact Below.refl _ _ | exact hbA)), (by repeat (first | fail | (with_reducible exact Below.refl _ _) | (with_reducible refine Below.al ?_ _) | (with_reducible refine Below.drN ?_ _) | (with_reducible refine Below.drew ?_) | (with_reducible refine Below.st ?_ ?_ _; rotate_left 1; (first | (dsimp only; omega) | omega | (simp; omega) | simp)) | exact Below.refl _ _))⟩
        rw [hwB]
        clear hwB
        have hz7 : wA.heap.size < wB.heap.size := B7.lt
        have hzw := hbA.size
        have B3 := B3
        have B3c := B3.cell
        have B3f := B3.thawed
        have B3z := B3.lt
        have B3k := lt_add B3z
        have B7 := B7
        have B7c := B7.cell
        have B7f := B7.thawed
        have B7z := B7.lt
        have B7k := lt_add B7z
        go_cut [5] (fun e wx => ∃ (x : Int) (r c : Int) (v : Value), e = .int .i64 x ∧ Hid (StackSo wx wB.heap.size (insTo ds n) n x r c v) ∧ Box wx wA.heap.size [.int .i64 r, .int .i64 c, v, .int .i64 0, .int .i64 0, .slice none 0 0] 50 ∧ Far (fun b => b = wA.heap.size) wB wx)
        case first =>
          have hzL : wA.heap.size < wB.heap.size := B7.lt
          go_wp2_with fail
          go_loopw [5, 8] (fun e i wr => ∃ (t : Nat) (x : Int) (v : Value), t ≤ n ∧ i = .int .i64 t ∧ e = .int .i64 x ∧ Hid (ColsSo (insTo ds n) t x) ∧ Box wr wA.heap.size [.int .i64 (rowsTo (insTo ds n) t), .int .i64 (colsTo (insTo ds n) t), v, .int .i64 0, .int .i64 0, .slice none 0 0] 50 ∧ wr.ownsRow wB.heap.size 3 1 v (cellsTo (insTo ds n) t).length ((cellsTo (insTo ds n) t).map (Value.int .i64)) ∧ Far (fun b => b = wA.heap.size) wB wr) (fun _ i _ => n - (intOf i).toNat)
          case atStart => exact ⟨0, 0, _, Nat.zero_le _, rfl, rfl, Lib.hid (ColsSo.zero _), B7, World.ownsRow_nil _ _ _ _, Far.refl _ _⟩
          case round =>
            obtain ⟨t, x, v, ht, rfl, rfl, HX, BM, hown, hfr⟩ := hrel
            have hbr : Below w.heap.size w wr := Far.toBelow hbB hfr (by omega) (fun k hk => by subst hk; omega)
            by_cases hlt : t < n
            · have hltI : (t : Int) < (n : Int) := by omega
              have hltZ : (0 : Int) < (n : Int) := by omega
              rcases HX.out with ⟨rfl, hj⟩ | ⟨rfl, hj⟩
              · have HZJ := Lib.hid hj
                clear hj HX
                have hz : wA.heap.size < wr.heap.size := BM.lt
                obtain ⟨p1, p2, p3, p4, p5, p6, p7, p8, p9, p10, c0, c1, c2, c3, c4, c5, y0, y1⟩ := bat_cells RW.out (bx_get (ds := ds) (i := t) (by rw [HLEN.out]; exact hlt))
                obtain ⟨_, _, _, _, _, _, _, _, _, _, e0, e1, e2, e3, e4, e5, _, _⟩ := bat_cells RW.out (bx_get (ds := ds) (i := 0) (by rw [HLEN.out]; omega))
                have l3 := y0.lt
                have m0 := cell_keep hbr c0
                have m1 := cell_keep hbr c1
                have m2 := cell_keep hbr c2
                have x3c := y0.keep hbr
                have n1' := cell_keep hbr e1
                simp only [Nat.zero_mul, Nat.add_zero] at n1'
                clear c0 c1 c2 c3 c4 c5 e0 e1 e2 e3 e4 e5 y0 y1
                have hbA1 : b ≠ wA.heap.size := by omega
                have hnb : 0 < p2 → p4 ≠ wA.heap.size := fun h => by have := l3 h; omega
                have HN3 : Hid ((bx ds t).I.cells.length = p2) := Lib.hid x3c.len
                have hM := insTo_mx (ds := ds) (q := n) (j := t) hlt
                have hM0 := insTo_mx (ds := ds) (q := n) (j := 0) (by omega)
                have HCO : Hid ((bx ds 0).I.cols = colsTo (insTo ds n) (t + 1)) := Lib.hid (by unfold colsTo; rw [if_neg (by omega), hM0])
                have HCS : Hid (cellsTo (insTo ds n) (t + 1) = cellsTo (insTo ds n) t ++ (bx ds t).I.cells) := Lib.hid (by rw [cellsTo_succ, hM])
                obtain ⟨q1, q2, q3⟩ := HTI.out t (by rw [insTo_length]; exact ht)
                have hrb := fault_bd (firstFault_all HFI.out (show t < (insTo ds n).length by rw [insTo_length]; exact hlt))
                rw [hM] at hrb
                have HW1 : Hid (wrap64 (rowsTo (insTo ds n) t + (bx ds t).I.rows) = rowsTo (insTo ds n) (t + 1)) := Lib.hid (by rw [rowsTo_succ, hM]; unfold wrap64; omega)
                have hbyt : ((cellsTo (insTo ds n) t).length + p2) * 8 ≤ 140737488355328 := by have := hrb.2.2; rw [HN3.out] at this; omega
                have HM := Lib.hid hM
                have HM0 := Lib.hid hM0
                clear hrb hM hM0 q1 q2 q3
                have BM := BM
                have BMc := BM.cell
                have BMf := BM.thawed
                have BMz := BM.lt
                have BMk := lt_add BMz
                have hvM : v.ownBlock ≠ some wA.heap.size := own_ne hown BM (by decide)
                by_cases hc : (bx ds t).I.cols = (bx ds 0).I.cols
                · have g4 : ((bx ds t).I.cols != (bx ds 0).I.cols) = false := by simp [hc]
                  have HXN : Hid (ColsSo (insTo ds n) (t + 1) 0) := Lib.hid (ColsSo.next HZJ.out (by rw [HM.out, HM0.out]; exact hc))
                  clear hc
                  go_wp2_with fail
                  go_quiet (fail)
                  go_upto_region 16 with (fail)
                  obtain ⟨wq, hwq, BQ, ownq, hfq, m0, m2, x3c⟩ : ∃ wq, (World.setCell (wr.drewN nq) ⟨wA.heap.size, 1, none⟩ (.int .i64 (bx ds 0).I.cols)) = wq ∧ Box wq wA.heap.size [.int .i64 (rowsTo (insTo ds n) t), .int .i64 (bx ds 0).I.cols, v, .int .i64 0, .int .i64 0, .slice none 0 0] 50 ∧ wq.ownsRow wB.heap.size 3 1 v (cellsTo (insTo ds n) t).length ((cellsTo (insTo ds n) t).map (Value.int .i64)) ∧ Far (fun b => b = wA.heap.size) wB wq ∧ wq.cell? ⟨b, o + t * 6 , none⟩ = some (.int .i64 (bx ds t).I.rows) ∧ wq.cell? ⟨b, o + t * 6 + 2, none⟩ = some (.slice p1 p2 p3) ∧ IntsAt wq p1 p2 p3 p4 p5 (bx ds t).I.cells :=
                    ⟨_, rfl, (Box.drewN BM _).set 1 _, own_set (show World.ownsRow (wr.drewN nq) _ _ _ _ _ _ from hown) hvM _, (hfr.drN _).st (fun _ => rfl) _, cell_off hbA1 (show World.cell? (wr.drewN nq) _ = _ from m0) _, cell_off hbA1 (show World.cell? (wr.drewN nq) _ = _ from m2) _, (IntsAt.drewN x3c _).set hnb _⟩
                  rw [hwq]
                  clear hwq m1 n1' BM BMc BMf BMz BMk hown hfr hbr
                  have BQ := BQ
                  have BQc := BQ.cell
                  have BQf := BQ.thawed
                  have BQz := BQ.lt
                  have BQk := lt_add BQz
                  go_region
                  obtain ⟨wp, hwp, BP, ownp, hfp, m2, x3c⟩ : ∃ wp, (wq.setCell ⟨wA.heap.size, 0, none⟩ (.int .i64 (wrap64 (rowsTo (insTo ds n) t + (bx ds t).I.rows)))).drew = wp ∧ Box wp wA.heap.size [.int .i64 (rowsTo (insTo ds n) (t + 1)), .int .i64 (bx ds 0).I.cols, v, .int .i64 0, .int .i64 0, .slice none 0 0] 50 ∧ wp.ownsRow wB.heap.size 3 1 v (cellsTo (insTo ds n) t).length ((cellsTo (insTo ds n) t).map (Value.int .i64)) ∧ Far (fun b => b = wA.heap.size) wB wp ∧ wp.cell? ⟨b, o + t * 6 + 2, none⟩ = some (.slice p1 p2 p3) ∧ IntsAt wp p1 p2 p3 p4 p5 (bx ds t).I.cells :=
                    ⟨_, rfl, by rw [HW1.out]; exact (BQ.set 0 _).drew, own_set ownq hvM _, (hfq.st (fun _ => rfl) _).drew, cell_off hbA1 m2 _, (x3c.set hnb _).drewN 1⟩
                  rw [hwp]
                  clear hwp m0 BQ BQc BQf BQz BQk ownq hfq
                  have BP := BP
                  have BPc := BP.cell
                  have BPf := BP.thawed
                  have BPz := BP.lt
                  have BPk := lt_add BPz
                  have hzP : wB.heap.size ≤ wp.heap.size := hfp.size
                  have ownd : wp.drew.ownsRow wB.heap.size 3 1 v (cellsTo (insTo ds n) t).length ((cellsTo (insTo ds n) t).map (Value.int .i64)) := ownp
                  have x3d : IntsAt wp.drew p1 p2 p3 p4 p5 (bx ds t).I.cells := x3c.drewN 1
                  have hbz : wB.heap.size ≤ wp.drew.heap.size := hzP
                  have HROW : Hid (∀ k, v.ownBlock = some k → wB.heap.size ≤ k) := Lib.hid (fun k hk => (ownp.lt k hk).1)
                  go_wp2_with fail
                  go_region_law ((refine at_oper ⟨some 86, _, _, _, _, _⟩ ?_; go_must (refine step_append_ints rfl (.tmp 79) (.tmp 85) 23 (by rfl) wB.heap.size 3 i0 Tryd.underlying23 hi his0 his1 his2 v (cellsTo (insTo ds n) t).length (cellsTo (insTo ds n) t) (by rfl) ownd p1 p2 p3 p4 p5 (bx ds t).I.cells (by rfl) x3d hbyt hbz ?_)); intro v' wl hownl hgrow; obtain ⟨av, cv, hv'⟩ := own_slice hownl; subst hv'; have BL := BP.drew.grown hgrow (Ne.symm hvM); have c21 := BL.cell 2; have f21 := BL.thawed 2)
                  all_goals (
                    go_wp2
                    go_roundw
                    case rel => exact ⟨t + 1, 0, _, by omega, by go_num, rfl, HXN, by rw [← HCO.out]; exact BL.set 2 _, by
                      rw [HCS.out, List.length_append, HN3.out]; exact own_set hownl (own_ne hownl BL (by decide)) _, (hfp.drew.grown hgrow (fun k hk hlt => by have := HROW.out k hk; omega)).st (fun _ => rfl) _⟩
                    case measure => simp [intOf]; omega)
                · have g4 : ((bx ds t).I.cols != (bx ds 0).I.cols) = true := by simp [hc]
                  have HXN : Hid (ColsSo (insTo ds n) (t + 1) 2) := Lib.hid (ColsSo.bad _ (by rw [insTo_length]; exact hlt) (by rw [HM.out, HM0.out]; exact hc))
                  clear hc
                  go_wp2_with fail
                  go_quiet (fail)
                  go_upto_region 16 with (fail)
                  obtain ⟨wq, hwq, BQ, ownq, hfq, m0, m2, x3c⟩ : ∃ wq, (World.setCell (wr.drewN nq) ⟨wA.heap.size, 1, none⟩ (.int .i64 (bx ds 0).I.cols)) = wq ∧ Box wq wA.heap.size [.int .i64 (rowsTo (insTo ds n) t), .int .i64 (bx ds 0).I.cols, v, .int .i64 0, .int .i64 0, .slice none 0 0] 50 ∧ wq.ownsRow wB.heap.size 3 1 v (cellsTo (insTo ds n) t).length ((cellsTo (insTo ds n) t).map (Value.int .i64)) ∧ Far (fun b => b = wA.heap.size) wB wq ∧ wq.cell? ⟨b, o + t * 6 , none⟩ = some (.int .i64 (bx ds t).I.rows) ∧ wq.cell? ⟨b, o + t * 6 + 2, none⟩ = some (.slice p1 p2 p3) ∧ IntsAt wq p1 p2 p3 p4 p5 (bx ds t).I.cells :=
                    ⟨_, rfl, (Box.drewN BM _).set 1 _, own_set (show World.ownsRow (wr.drewN nq) _ _ _ _ _ _ from hown) hvM _, (hfr.drN _).st (fun _ => rfl) _, cell_off hbA1 (show World.cell? (wr.drewN nq) _ = _ from m0) _, cell_off hbA1 (show World.cell? (wr.drewN nq) _ = _ from m2) _, (IntsAt.drewN x3c _).set hnb _⟩
                  rw [hwq]
                  clear hwq m1 n1' BM BMc BMf BMz BMk hown hfr hbr
                  have BQ := BQ
                  have BQc := BQ.cell
                  have BQf := BQ.thawed
                  have BQz := BQ.lt
                  have BQk := lt_add BQz
                  go_region
                  obtain ⟨wp, hwp, BP, ownp, hfp, m2, x3c⟩ : ∃ wp, (wq.setCell ⟨wA.heap.size, 0, none⟩ (.int .i64 (wrap64 (rowsTo (insTo ds n) t + (bx ds t).I.rows)))).drew = wp ∧ Box wp wA.heap.size [.int .i64 (rowsTo (insTo ds n) (t + 1)), .int .i64 (bx ds 0).I.cols, v, .int .i64 0, .int .i64 0, .slice none 0 0] 50 ∧ wp.ownsRow wB.heap.size 3 1 v (cellsTo (insTo ds n) t).length ((cellsTo (insTo ds n) t).map (Value.int .i64)) ∧ Far (fun b => b = wA.heap.size) wB wp ∧ wp.cell? ⟨b, o + t * 6 + 2, none⟩ = some (.slice p1 p2 p3) ∧ IntsAt wp p1 p2 p3 p4 p5 (bx ds t).I.cells :=
                    ⟨_, rfl, by rw [HW1.out]; exact (BQ.set 0 _).drew, own_set ownq hvM _, (hfq.st (fun _ => rfl) _).drew, cell_off hbA1 m2 _, (x3c.set hnb _).drewN 1⟩
                  rw [hwp]
                  clear hwp m0 BQ BQc BQf BQz BQk ownq hfq
                  have BP := BP
                  have BPc := BP.cell
                  have BPf := BP.thawed
                  have BPz := BP.lt
                  have BPk := lt_add BPz
                  have hzP : wB.heap.size ≤ wp.heap.size := hfp.size
                  have ownd : wp.drew.ownsRow wB.heap.size 3 1 v (cellsTo (insTo ds n) t).length ((cellsTo (insTo ds n) t).map (Value.int .i64)) := ownp
                  have x3d : IntsAt wp.drew p1 p2 p3 p4 p5 (bx ds t).I.cells := x3c.drewN 1
                  have hbz : wB.heap.size ≤ wp.drew.heap.size := hzP
                  have HROW : Hid (∀ k, v.ownBlock = some k → wB.heap.size ≤ k) := Lib.hid (fun k hk => (ownp.lt k hk).1)
                  go_wp2_with fail
                  go_region_law ((refine at_oper ⟨some 86, _, _, _, _, _⟩ ?_; go_must (refine step_append_ints rfl (.tmp 79) (.tmp 85) 23 (by rfl) wB.heap.size 3 i0 Tryd.underlying23 hi his0 his1 his2 v (cellsTo (insTo ds n) t).length (cellsTo (insTo ds n) t) (by rfl) ownd p1 p2 p3 p4 p5 (bx ds t).I.cells (by rfl) x3d hbyt hbz ?_)); intro v' wl hownl hgrow; obtain ⟨av, cv, hv'⟩ := own_slice hownl; subst hv'; have BL := BP.drew.grown hgrow (Ne.symm hvM); have c21 := BL.cell 2; have f21 := BL.thawed 2)
                  all_goals (
                    go_wp2
                    go_roundw
                    case rel => exact ⟨t + 1, 2, _, by omega, by go_num, rfl, HXN, by rw [← HCO.out]; exact BL.set 2 _, by
                      rw [HCS.out, List.length_append, HN3.out]; exact own_set hownl (own_ne hownl BL (by decide)) _, (hfp.drew.grown hgrow (fun k hk hlt => by have := HROW.out k hk; omega)).st (fun _ => rfl) _⟩
                    case measure => simp [intOf]; omega)
              · have HJ3 : Hid (StackSo wr wB.heap.size (insTo ds n) n 2 (rowsTo (insTo ds n) t) (colsTo (insTo ds n) t) v) := Lib.hid (Or.inr ⟨rfl, hj⟩)
                clear hj HX
                go_wp2_with fail
                go_meet
                exact ⟨2, _, _, v, rfl, HJ3, BM, hfr⟩
            · have hltI : ¬ (t : Int) < (n : Int) := by omega
              have htn : t = n := by omega
              rw [htn] at hown BM HX
              obtain ⟨av, kv, bv, hv, hbv, xv⟩ := IntsAt.of_own hown
              have HXN : Hid (StackSo wr wB.heap.size (insTo ds n) n x (rowsTo (insTo ds n) n) (colsTo (insTo ds n) n) v) := Lib.hid (by
                rcases HX.out with ⟨h, hj⟩ | h
                · exact Or.inl ⟨h, sameCols_of (insTo_length ds n) hj, rfl, rfl, av, kv, bv, hv, hbv, xv⟩
                · exact Or.inr h)
              clear HX hv xv htn
              go_wp2_with fail
              go_meet
              exact ⟨x, _, _, v, rfl, HXN, BM, hfr⟩
        case rest =>
        obtain ⟨x, r, c, v, rfl, HX, B7n, hfc⟩ := hcut
        obtain ⟨wE, rfl⟩ : ∃ wE, wE = wc := ⟨_, rfl⟩
        have hzE := hfc.size
        have hhl := hh.lt
        have hbE : Below w.heap.size w wE := Far.toBelow hbB hfc (by omega) (fun k hk => by subst hk; omega)
        replace hh := hh.farS hfc (by intro e; omega)
        replace x1 := x1.farS hfc (fun h e => by have := l1 h; omega)
        replace x2 := x2.farS hfc (fun h e => by have := l2 h; omega)
        replace B3 := B3.farS hfc (by intro e; omega)
        clear B7 B7c B7f B7z B7k hfc hbB
        have B3 := B3
        have B3c := B3.cell
        have B3f := B3.thawed
        have B3z := B3.lt
        have B3k := lt_add B3z
        have B7 := B7n
        have B7c := B7.cell
        have B7f := B7.thawed
        have B7z := B7.lt
        have B7k := lt_add B7z
        rcases HX.out with ⟨rfl, hs, rfl, rfl, av, kv, bv, rfl, hbv, xv⟩ | ⟨rfl, hs⟩
        · have HSC := Lib.hid hs
          clear HX hs
          by_cases hr : 24 < rowsTo (insTo ds n) n
          · have HS : Hid (joinFault ds = 3) := Lib.hid (by rw [HJF.out, show stackFault (insTo ds n) = 3 by rw [HSI.out, if_neg (by simp [HSC.out]), if_pos hr], if_pos (by decide)])
            have HNE : Hid ((3 : Int) ≠ 0) := Lib.hid (by decide)
            have HJN : Hid (J = ⟨Mat.none, Mat.none⟩) := Lib.hid (by rw [← HJ.out]; exact joined_bad (by rw [HS.out]; exact HNE.out))
            go_wp2_with fail
            go_loopw [5, 9] (fun e i wr => e = .int .i64 (3) ∧ i = .int .i64 0 ∧ wE = wr) (fun _ _ _ => 0)
            case atStart => exact ⟨rfl, rfl, rfl⟩
            case round =>
              obtain ⟨rfl, rfl, rfl⟩ := hrel
              go_wp2_with fail
              have hhl := hh.lt
              obtain ⟨wC, hwC, C7, C3, hhC, xC, yC, hbC⟩ : ∃ wC, ((((((wE.setCell ⟨wA.heap.size, 0, none⟩ (.int .i64 0)).setCell ⟨wA.heap.size, 1, none⟩ (.int .i64 0)).setCell ⟨wA.heap.size, 2, none⟩ (.slice none 0 0)).setCell ⟨wA.heap.size, 3, none⟩ (.int .i64 0)).setCell ⟨wA.heap.size, 4, none⟩ (.int .i64 0)).setCell ⟨wA.heap.size, 5, none⟩ (.slice none 0 0)) = wC ∧ Box wC wA.heap.size [.int .i64 0, .int .i64 0, .slice none 0 0, .int .i64 0, .int .i64 0, .slice none 0 0] 50 ∧ Box wC w1.heap.size [.int .i64 J.I.rows, .int .i64 J.I.cols, .slice a1 n1 k1, .int .i64 J.W.rows, .int .i64 J.W.cols, .slice a2 n2 k2] 50 ∧ Handle wC ∧ IntsAt wC a1 n1 k1 b1 o1 J.I.cells ∧ IntsAt wC a2 n2 k2 b2 o2 J.W.cells ∧ Below w.heap.size w wC := by
                have hf : Far (fun b => b = wA.heap.size) wE ((((((wE.setCell ⟨wA.heap.size, 0, none⟩ (.int .i64 0)).setCell ⟨wA.heap.size, 1, none⟩ (.int .i64 0)).setCell ⟨wA.heap.size, 2, none⟩ (.slice none 0 0)).setCell ⟨wA.heap.size, 3, none⟩ (.int .i64 0)).setCell ⟨wA.heap.size, 4, none⟩ (.int .i64 0)).setCell ⟨wA.heap.size, 5, none⟩ (.slice none 0 0)) :=
                  ((((((Far.refl (fun b => b = wA.heap.size) wE).st (fun _ => rfl) _).st (fun _ => rfl) _).st (fun _ => rfl) _).st (fun _ => rfl) _).st (fun _ => rfl) _).st (fun _ => rfl) _
                exact ⟨_, rfl, (((((B7.set 0 _).set 1 _).set 2 _).set 3 _).set 4 _).set 5 _, B3.farS hf (by intro e; omega), hh.farS hf (by intro e; omega), x1.farS hf (fun h e => by have := l1 h; omega), x2.farS hf (fun h e => by have := l2 h; omega), Far.toBelow hbE hf (by omega) (fun k hk => by subst hk; omega)⟩
              rw [hwC]
              clear hwC
              refine (error_eq _ _ _ (by assumption) HS.out).mono ?_
              rintro e wy ⟨rfl, hby⟩
              have hky : Below wC.heap.size wC wy := (by repeat (first | fail | (with_reducible exact Below.refl _ _) | (with_reducible refine Below.al ?_ _) | (with_reducible refine Below.drN ?_ _) | (with_reducible refine Below.drew ?_) | (with_reducible refine Below.st ?_ ?_ _; rotate_left 1; (first | (dsimp only; omega) | omega | (simp; omega) | simp)) | (with_reducible refine Below.go ?_ hby) | exact Below.refl _ _))
              have C3 := C3.keep hky
              have C3c := C3.cell
              have C3f := C3.thawed
              have C3z := C3.lt
              have C3k := lt_add C3z
              have C7 := C7.keep hky
              have C7c := C7.cell
              have C7f := C7.thawed
              have C7z := C7.lt
              have C7k := lt_add C7z
              replace xC := xC.keep hky
              replace yC := yC.keep hky
              go_wp2_with fail
              refine (batches_same [J] anyB anyB _ _ 1 1 1 1 _ _ 0 0 _ (row_one (b := wy.heap.size) (cs := [.int .i64 J.I.rows, .int .i64 J.I.cols, .slice a1 n1 k1, .int .i64 J.W.rows, .int .i64 J.W.cols, .slice a2 n2 k2]) (T := 50) (by repeat (first | fail | (with_reducible refine (Box.new' _ _ _ _ ?_); (simp; done)) | (with_reducible refine Box.alloc ?_ _) | (with_reducible refine Box.drewN ?_ _) | (with_reducible refine Box.drew ?_) | (with_reducible refine Box.far ?_ ?_ _; rotate_left 1; (first | (dsimp only; omega) | omega | (simp; omega) | simp)))) (reads_bat (d := J) (fun _ => trivial) (show IntsAt _ a1 n1 k1 b1 o1 J.I.cells from (by repeat (first | fail | (with_reducible exact xC) | (with_reducible refine IntsAt.alloc ?_ _) | (with_reducible refine IntsAt.drewN ?_ _) | (with_reducible refine IntsAt.drew ?_) | (with_reducible refine IntsAt.set ?_ ?_ _; rotate_left 1; (intro h0; first | (dsimp only; omega) | omega | (simp; omega) | simp)) | exact xC))) (fun _ => trivial) (show IntsAt _ a2 n2 k2 b2 o2 J.W.cells from (by repeat (first | fail | (with_reducible exact yC) | (with_reducible refine IntsAt.alloc ?_ _) | (with_reducible refine IntsAt.drewN ?_ _) | (with_reducible refine IntsAt.drew ?_) | (with_reducible refine IntsAt.set ?_ ?_ _; rotate_left 1; (intro h0; first | (dsimp only; omega) | omega | (simp; omega) | simp)) | exact yC)))) trivial) (row_one (b := wy.heap.size + 1) (cs := [.int .i64 0, .int .i64 0, .slice none 0 0, .int .i64 0, .int .i64 0, .slice none 0 0]) (T := 50) (by repeat (first | fail | (with_reducible refine (Box.new' _ _ _ _ ?_); (simp; done)) | (with_reducible refine Box.alloc ?_ _) | (with_reducible refine Box.drewN ?_ _) | (with_reducible refine Box.drew ?_) | (with_reducible refine Box.far ?_ ?_ _; rotate_left 1; (first | (dsimp only; omega) | omega | (simp; omega) | simp)))) (by rw [HJN.out]; exact reads_bat (d := ⟨Mat.none, Mat.none⟩) (n := 0) (n' := 0) (b := 0) (b' := 0) (o := 0) (o' := 0) (fun _ => trivial) (ints_none _) (fun _ => trivial) (ints_none _)) trivial)).mono ?_
              rintro e wz ⟨rfl, hbz⟩
              have hbe : Below w.heap.size w wz := (by repeat (first | fail | (with_reducible exact Below.refl _ _) | (with_reducible exact hbC) | (with_reducible refine Below.al ?_ _) | (with_reducible refine Below.drN ?_ _) | (with_reducible refine Below.drew ?_) | (with_reducible refine Below.st ?_ ?_ _; rotate_left 1; (first | (dsimp only; omega) | omega | (simp; omega) | simp)) | (with_reducible refine Below.go ?_ hbz) | (with_reducible refine Below.go ?_ hby) | exact Below.refl _ _ | exact hbC))
              go_wp2
              go_ret
              exact ⟨rfl, hbe⟩
          · have hr' : ¬ (24 : Int) < rowsTo (insTo ds n) n := hr
            have HSI0 : Hid (stackFault (insTo ds n) = 0) := Lib.hid (by rw [HSI.out, if_neg (by simp [HSC.out]), if_neg hr])
            have HR := Lib.hid hr
            have hbvA : 0 < (cellsTo (insTo ds n) n).length → bv ≠ wA.heap.size := fun h => by have := hbv h; omega
            have HBV := Lib.hid hbvA
            clear hr hbvA
            go_upto_block 4 with fail
            clear hr'
            go_cut [5] (fun e wx => ∃ (x : Int) (r c : Int) (v : Value), e = .int .i64 x ∧ Hid (StackSo wx wE.heap.size (wantsTo ds n) n x r c v) ∧ Box wx wA.heap.size [.int .i64 (rowsTo (insTo ds n) n), .int .i64 (colsTo (insTo ds n) n), .slice av (cellsTo (insTo ds n) n).length kv, .int .i64 r, .int .i64 c, v] 50 ∧ Far (fun b => b = wA.heap.size) wE wx)
            case first =>
              have hzL : wA.heap.size < wE.heap.size := B7.lt
              go_wp2_with fail
              go_loopw [5, 9] (fun e i wr => ∃ (t : Nat) (x : Int) (v : Value), t ≤ n ∧ i = .int .i64 t ∧ e = .int .i64 x ∧ Hid (ColsSo (wantsTo ds n) t x) ∧ Box wr wA.heap.size [.int .i64 (rowsTo (insTo ds n) n), .int .i64 (colsTo (insTo ds n) n), .slice av (cellsTo (insTo ds n) n).length kv, .int .i64 (rowsTo (wantsTo ds n) t), .int .i64 (colsTo (wantsTo ds n) t), v] 50 ∧ wr.ownsRow wE.heap.size 3 1 v (cellsTo (wantsTo ds n) t).length ((cellsTo (wantsTo ds n) t).map (Value.int .i64)) ∧ Far (fun b => b = wA.heap.size) wE wr) (fun _ i _ => n - (intOf i).toNat)
              case atStart => exact ⟨0, 0, _, Nat.zero_le _, rfl, rfl, Lib.hid (ColsSo.zero _), B7, World.ownsRow_nil _ _ _ _, Far.refl _ _⟩
              case round =>
                obtain ⟨t, x, v, ht, rfl, rfl, HX, BM, hown, hfr⟩ := hrel
                have hbr : Below w.heap.size w wr := Far.toBelow hbE hfr (by omega) (fun k hk => by subst hk; omega)
                by_cases hlt : t < n
                · have hltI : (t : Int) < (n : Int) := by omega
                  have hltZ : (0 : Int) < (n : Int) := by omega
                  rcases HX.out with ⟨rfl, hj⟩ | ⟨rfl, hj⟩
                  · have HZJ := Lib.hid hj
                    clear hj HX
                    have hz : wA.heap.size < wr.heap.size := BM.lt
                    obtain ⟨p1, p2, p3, p4, p5, p6, p7, p8, p9, p10, c0, c1, c2, c3, c4, c5, y0, y1⟩ := bat_cells RW.out (bx_get (ds := ds) (i := t) (by rw [HLEN.out]; exact hlt))
                    obtain ⟨_, _, _, _, _, _, _, _, _, _, e0, e1, e2, e3, e4, e5, _, _⟩ := bat_cells RW.out (bx_get (ds := ds) (i := 0) (by rw [HLEN.out]; omega))
                    have l3 := y1.lt
                    have m0 := cell_keep hbr c3
                    have m1 := cell_keep hbr c4
                    have m2 := cell_keep hbr c5
                    have x3c := y1.keep hbr
                    have n1' := cell_keep hbr e4
                    simp only [Nat.zero_mul, Nat.add_zero] at n1'
                    clear c0 c1 c2 c3 c4 c5 e0 e1 e2 e3 e4 e5 y0 y1
                    have hbA1 : b ≠ wA.heap.size := by omega
                    have hnb : 0 < p7 → p9 ≠ wA.heap.size := fun h => by have := l3 h; omega
                    have HN3 : Hid ((bx ds t).W.cells.length = p7) := Lib.hid x3c.len
                    have hM := wantsTo_mx (ds := ds) (q := n) (j := t) hlt
                    have hM0 := wantsTo_mx (ds := ds) (q := n) (j := 0) (by omega)
                    have HCO : Hid ((bx ds 0).W.cols = colsTo (wantsTo ds n) (t + 1)) := Lib.hid (by unfold colsTo; rw [if_neg (by omega), hM0])
                    have HCS : Hid (cellsTo (wantsTo ds n) (t + 1) = cellsTo (wantsTo ds n) t ++ (bx ds t).W.cells) := Lib.hid (by rw [cellsTo_succ, hM])
                    obtain ⟨q1, q2, q3⟩ := HTW.out t (by rw [wantsTo_length]; exact ht)
                    have hrb := fault_bd (firstFault_all HFW.out (show t < (wantsTo ds n).length by rw [wantsTo_length]; exact hlt))
                    rw [hM] at hrb
                    have HW1 : Hid (wrap64 (rowsTo (wantsTo ds n) t + (bx ds t).W.rows) = rowsTo (wantsTo ds n) (t + 1)) := Lib.hid (by rw [rowsTo_succ, hM]; unfold wrap64; omega)
                    have hbyt : ((cellsTo (wantsTo ds n) t).length + p7) * 8 ≤ 140737488355328 := by have := hrb.2.2; rw [HN3.out] at this; omega
                    have HM := Lib.hid hM
                    have HM0 := Lib.hid hM0
                    clear hrb hM hM0 q1 q2 q3
                    have BM := BM
                    have BMc := BM.cell
                    have BMf := BM.thawed
                    have BMz := BM.lt
                    have BMk := lt_add BMz
                    have hvM : v.ownBlock ≠ some wA.heap.size := own_ne hown BM (by decide)
                    by_cases hc : (bx ds t).W.cols = (bx ds 0).W.cols
                    · have g4 : ((bx ds t).W.cols != (bx ds 0).W.cols) = false := by simp [hc]
                      have HXN : Hid (ColsSo (wantsTo ds n) (t + 1) 0) := Lib.hid (ColsSo.next HZJ.out (by rw [HM.out, HM0.out]; exact hc))
                      clear hc
                      go_wp2_with fail
                      go_quiet (fail)
                      go_upto_region 26 with (fail)
                      obtain ⟨wq, hwq, BQ, ownq, hfq, m0, m2, x3c⟩ : ∃ wq, (World.setCell (wr.drewN nq) ⟨wA.heap.size, 4, none⟩ (.int .i64 (bx ds 0).W.cols)) = wq ∧ Box wq wA.heap.size [.int .i64 (rowsTo (insTo ds n) n), .int .i64 (colsTo (insTo ds n) n), .slice av (cellsTo (insTo ds n) n).length kv, .int .i64 (rowsTo (wantsTo ds n) t), .int .i64 (bx ds 0).W.cols, v] 50 ∧ wq.ownsRow wE.heap.size 3 1 v (cellsTo (wantsTo ds n) t).length ((cellsTo (wantsTo ds n) t).map (Value.int .i64)) ∧ Far (fun b => b = wA.heap.size) wE wq ∧ wq.cell? ⟨b, o + t * 6 + 3, none⟩ = some (.int .i64 (bx ds t).W.rows) ∧ wq.cell? ⟨b, o + t * 6 + 5, none⟩ = some (.slice p6 p7 p8) ∧ IntsAt wq p6 p7 p8 p9 p10 (bx ds t).W.cells :=
                        ⟨_, rfl, (Box.drewN BM _).set 4 _, own_set (show World.ownsRow (wr.drewN nq) _ _ _ _ _ _ from hown) hvM _, (hfr.drN _).st (fun _ => rfl) _, cell_off hbA1 (show World.cell? (wr.drewN nq) _ = _ from m0) _, cell_off hbA1 (show World.cell? (wr.drewN nq) _ = _ from m2) _, (IntsAt.drewN x3c _).set hnb _⟩
                      rw [hwq]
                      clear hwq m1 n1' BM BMc BMf BMz BMk hown hfr hbr
                      have BQ := BQ
                      have BQc := BQ.cell
                      have BQf := BQ.thawed
                      have BQz := BQ.lt
                      have BQk := lt_add BQz
                      go_region
                      obtain ⟨wp, hwp, BP, ownp, hfp, m2, x3c⟩ : ∃ wp, (wq.setCell ⟨wA.heap.size, 3, none⟩ (.int .i64 (wrap64 (rowsTo (wantsTo ds n) t + (bx ds t).W.rows)))).drew = wp ∧ Box wp wA.heap.size [.int .i64 (rowsTo (insTo ds n) n), .int .i64 (colsTo (insTo ds n) n), .slice av (cellsTo (insTo ds n) n).length kv, .int .i64 (rowsTo (wantsTo ds n) (t + 1)), .int .i64 (bx ds 0).W.cols, v] 50 ∧ wp.ownsRow wE.heap.size 3 1 v (cellsTo (wantsTo ds n) t).length ((cellsTo (wantsTo ds n) t).map (Value.int .i64)) ∧ Far (fun b => b = wA.heap.size) wE wp ∧ wp.cell? ⟨b, o + t * 6 + 5, none⟩ = some (.slice p6 p7 p8) ∧ IntsAt wp p6 p7 p8 p9 p10 (bx ds t).W.cells :=
                        ⟨_, rfl, by rw [HW1.out]; exact (BQ.set 3 _).drew, own_set ownq hvM _, (hfq.st (fun _ => rfl) _).drew, cell_off hbA1 m2 _, (x3c.set hnb _).drewN 1⟩
                      rw [hwp]
                      clear hwp m0 BQ BQc BQf BQz BQk ownq hfq
                      have BP := BP
                      have BPc := BP.cell
                      have BPf := BP.thawed
                      have BPz := BP.lt
                      have BPk := lt_add BPz
                      have hzP : wE.heap.size ≤ wp.heap.size := hfp.size
                      have ownd : wp.drew.ownsRow wE.heap.size 3 1 v (cellsTo (wantsTo ds n) t).length ((cellsTo (wantsTo ds n) t).map (Value.int .i64)) := ownp
                      have x3d : IntsAt wp.drew p6 p7 p8 p9 p10 (bx ds t).W.cells := x3c.drewN 1
                      have hbz : wE.heap.size ≤ wp.drew.heap.size := hzP
                      have HROW : Hid (∀ k, v.ownBlock = some k → wE.heap.size ≤ k) := Lib.hid (fun k hk => (ownp.lt k hk).1)
                      go_wp2_with fail
                      go_region_law ((refine at_oper ⟨some 147, _, _, _, _, _⟩ ?_; go_must (refine step_append_ints rfl (.tmp 140) (.tmp 146) 23 (by rfl) wE.heap.size 3 i0 Tryd.underlying23 hi his0 his1 his2 v (cellsTo (wantsTo ds n) t).length (cellsTo (wantsTo ds n) t) (by rfl) ownd p6 p7 p8 p9 p10 (bx ds t).W.cells (by rfl) x3d hbyt hbz ?_)); intro v' wl hownl hgrow; obtain ⟨av, cv, hv'⟩ := own_slice hownl; subst hv'; have BL := BP.drew.grown hgrow (Ne.symm hvM); have c21 := BL.cell 5; have f21 := BL.thawed 5)
                      all_goals (
                        go_wp2
                        go_roundw
                        case rel => exact ⟨t + 1, 0, _, by omega, by go_num, rfl, HXN, by rw [← HCO.out]; exact BL.set 5 _, by
                          rw [HCS.out, List.length_append, HN3.out]; exact own_set hownl (own_ne hownl BL (by decide)) _, (hfp.drew.grown hgrow (fun k hk hlt => by have := HROW.out k hk; omega)).st (fun _ => rfl) _⟩
                        case measure => simp [intOf]; omega)
                    · have g4 : ((bx ds t).W.cols != (bx ds 0).W.cols) = true := by simp [hc]
                      have HXN : Hid (ColsSo (wantsTo ds n) (t + 1) 2) := Lib.hid (ColsSo.bad _ (by rw [wantsTo_length]; exact hlt) (by rw [HM.out, HM0.out]; exact hc))
                      clear hc
                      go_wp2_with fail
                      go_quiet (fail)
                      go_upto_region 26 with (fail)
                      obtain ⟨wq, hwq, BQ, ownq, hfq, m0, m2, x3c⟩ : ∃ wq, (World.setCell (wr.drewN nq) ⟨wA.heap.size, 4, none⟩ (.int .i64 (bx ds 0).W.cols)) = wq ∧ Box wq wA.heap.size [.int .i64 (rowsTo (insTo ds n) n), .int .i64 (colsTo (insTo ds n) n), .slice av (cellsTo (insTo ds n) n).length kv, .int .i64 (rowsTo (wantsTo ds n) t), .int .i64 (bx ds 0).W.cols, v] 50 ∧ wq.ownsRow wE.heap.size 3 1 v (cellsTo (wantsTo ds n) t).length ((cellsTo (wantsTo ds n) t).map (Value.int .i64)) ∧ Far (fun b => b = wA.heap.size) wE wq ∧ wq.cell? ⟨b, o + t * 6 + 3, none⟩ = some (.int .i64 (bx ds t).W.rows) ∧ wq.cell? ⟨b, o + t * 6 + 5, none⟩ = some (.slice p6 p7 p8) ∧ IntsAt wq p6 p7 p8 p9 p10 (bx ds t).W.cells :=
                        ⟨_, rfl, (Box.drewN BM _).set 4 _, own_set (show World.ownsRow (wr.drewN nq) _ _ _ _ _ _ from hown) hvM _, (hfr.drN _).st (fun _ => rfl) _, cell_off hbA1 (show World.cell? (wr.drewN nq) _ = _ from m0) _, cell_off hbA1 (show World.cell? (wr.drewN nq) _ = _ from m2) _, (IntsAt.drewN x3c _).set hnb _⟩
                      rw [hwq]
                      clear hwq m1 n1' BM BMc BMf BMz BMk hown hfr hbr
                      have BQ := BQ
                      have BQc := BQ.cell
                      have BQf := BQ.thawed
                      have BQz := BQ.lt
                      have BQk := lt_add BQz
                      go_region
                      obtain ⟨wp, hwp, BP, ownp, hfp, m2, x3c⟩ : ∃ wp, (wq.setCell ⟨wA.heap.size, 3, none⟩ (.int .i64 (wrap64 (rowsTo (wantsTo ds n) t + (bx ds t).W.rows)))).drew = wp ∧ Box wp wA.heap.size [.int .i64 (rowsTo (insTo ds n) n), .int .i64 (colsTo (insTo ds n) n), .slice av (cellsTo (insTo ds n) n).length kv, .int .i64 (rowsTo (wantsTo ds n) (t + 1)), .int .i64 (bx ds 0).W.cols, v] 50 ∧ wp.ownsRow wE.heap.size 3 1 v (cellsTo (wantsTo ds n) t).length ((cellsTo (wantsTo ds n) t).map (Value.int .i64)) ∧ Far (fun b => b = wA.heap.size) wE wp ∧ wp.cell? ⟨b, o + t * 6 + 5, none⟩ = some (.slice p6 p7 p8) ∧ IntsAt wp p6 p7 p8 p9 p10 (bx ds t).W.cells :=
                        ⟨_, rfl, by rw [HW1.out]; exact (BQ.set 3 _).drew, own_set ownq hvM _, (hfq.st (fun _ => rfl) _).drew, cell_off hbA1 m2 _, (x3c.set hnb _).drewN 1⟩
                      rw [hwp]
                      clear hwp m0 BQ BQc BQf BQz BQk ownq hfq
                      have BP := BP
                      have BPc := BP.cell
                      have BPf := BP.thawed
                      have BPz := BP.lt
                      have BPk := lt_add BPz
                      have hzP : wE.heap.size ≤ wp.heap.size := hfp.size
                      have ownd : wp.drew.ownsRow wE.heap.size 3 1 v (cellsTo (wantsTo ds n) t).length ((cellsTo (wantsTo ds n) t).map (Value.int .i64)) := ownp
                      have x3d : IntsAt wp.drew p6 p7 p8 p9 p10 (bx ds t).W.cells := x3c.drewN 1
                      have hbz : wE.heap.size ≤ wp.drew.heap.size := hzP
                      have HROW : Hid (∀ k, v.ownBlock = some k → wE.heap.size ≤ k) := Lib.hid (fun k hk => (ownp.lt k hk).1)
                      go_wp2_with fail
                      go_region_law ((refine at_oper ⟨some 147, _, _, _, _, _⟩ ?_; go_must (refine step_append_ints rfl (.tmp 140) (.tmp 146) 23 (by rfl) wE.heap.size 3 i0 Tryd.underlying23 hi his0 his1 his2 v (cellsTo (wantsTo ds n) t).length (cellsTo (wantsTo ds n) t) (by rfl) ownd p6 p7 p8 p9 p10 (bx ds t).W.cells (by rfl) x3d hbyt hbz ?_)); intro v' wl hownl hgrow; obtain ⟨av, cv, hv'⟩ := own_slice hownl; subst hv'; have BL := BP.drew.grown hgrow (Ne.symm hvM); have c21 := BL.cell 5; have f21 := BL.thawed 5)
                      all_goals (
                        go_wp2
                        go_roundw
                        case rel => exact ⟨t + 1, 2, _, by omega, by go_num, rfl, HXN, by rw [← HCO.out]; exact BL.set 5 _, by
                          rw [HCS.out, List.length_append, HN3.out]; exact own_set hownl (own_ne hownl BL (by decide)) _, (hfp.drew.grown hgrow (fun k hk hlt => by have := HROW.out k hk; omega)).st (fun _ => rfl) _⟩
                        case measure => simp [intOf]; omega)
                  · have HJ3 : Hid (StackSo wr wE.heap.size (wantsTo ds n) n 2 (rowsTo (wantsTo ds n) t) (colsTo (wantsTo ds n) t) v) := Lib.hid (Or.inr ⟨rfl, hj⟩)
                    clear hj HX
                    go_wp2_with fail
                    go_meet
                    exact ⟨2, _, _, v, rfl, HJ3, BM, hfr⟩
                · have hltI : ¬ (t : Int) < (n : Int) := by omega
                  have htn : t = n := by omega
                  rw [htn] at hown BM HX
                  obtain ⟨av, kv, bv, hv, hbv, xv⟩ := IntsAt.of_own hown
                  have HXN : Hid (StackSo wr wE.heap.size (wantsTo ds n) n x (rowsTo (wantsTo ds n) n) (colsTo (wantsTo ds n) n) v) := Lib.hid (by
                    rcases HX.out with ⟨h, hj⟩ | h
                    · exact Or.inl ⟨h, sameCols_of (wantsTo_length ds n) hj, rfl, rfl, av, kv, bv, hv, hbv, xv⟩
                    · exact Or.inr h)
                  clear HX hv xv htn
                  go_wp2_with fail
                  go_meet
                  exact ⟨x, _, _, v, rfl, HXN, BM, hfr⟩
            case rest =>
            obtain ⟨x, r, c, v, rfl, HX, B7n, hfc⟩ := hcut
            obtain ⟨wG, rfl⟩ : ∃ wG, wG = wc := ⟨_, rfl⟩
            have hzG := hfc.size
            have hhl := hh.lt
            have hbG : Below w.heap.size w wG := Far.toBelow hbE hfc (by omega) (fun k hk => by subst hk; omega)
            replace hh := hh.farS hfc (by intro e; omega)
            replace x1 := x1.farS hfc (fun h e => by have := l1 h; omega)
            replace x2 := x2.farS hfc (fun h e => by have := l2 h; omega)
            replace B3 := B3.farS hfc (by intro e; omega)
            replace xv := xv.farS hfc (fun h e => HBV.out h e)
            clear B7 B7c B7f B7z B7k hfc hbE
            have B3 := B3
            have B3c := B3.cell
            have B3f := B3.thawed
            have B3z := B3.lt
            have B3k := lt_add B3z
            have B7 := B7n
            have B7c := B7.cell
            have B7f := B7.thawed
            have B7z := B7.lt
            have B7k := lt_add B7z
            rcases HX.out with ⟨rfl, hs, rfl, rfl, aw, kw, bw, rfl, hbw, xw⟩ | ⟨rfl, hs⟩
            · have HSC2 := Lib.hid hs
              have HS : Hid (joinFault ds = 0) := Lib.hid (by rw [HJF.out, HSI0.out, if_neg (by simp), HSW.out, if_neg (by simp [HSC2.out]), if_neg HR.out])
              have HJO : Hid (J = ⟨⟨rowsTo (insTo ds n) n, colsTo (insTo ds n) n, cellsTo (insTo ds n) n⟩, ⟨rowsTo (wantsTo ds n) n, colsTo (wantsTo ds n) n, cellsTo (wantsTo ds n) n⟩⟩) := Lib.hid (by
                rw [← HJ.out, joined_ok HS.out, HLEN.out]
                unfold matStack colsTo
                rw [insTo_length, wantsTo_length, if_neg (by omega), if_neg (by omega)])
              clear HX hs
              have C3 := B3
              have C7 := B7
              have xC := x1
              have yC := x2
              go_wp2_with fail
              refine (error_eq _ _ _ (by assumption) HS.out).mono ?_
              rintro e wy ⟨rfl, hby⟩
              have hky : Below wG.heap.size wG wy := (by repeat (first | fail | (with_reducible exact Below.refl _ _) | (with_reducible refine Below.al ?_ _) | (with_reducible refine Below.drN ?_ _) | (with_reducible refine Below.drew ?_) | (with_reducible refine Below.st ?_ ?_ _; rotate_left 1; (first | (dsimp only; omega) | omega | (simp; omega) | simp)) | (with_reducible refine Below.go ?_ hby) | exact Below.refl _ _))
              have C3 := C3.keep hky
              have C3c := C3.cell
              have C3f := C3.thawed
              have C3z := C3.lt
              have C3k := lt_add C3z
              have C7 := C7.keep hky
              have C7c := C7.cell
              have C7f := C7.thawed
              have C7z := C7.lt
              have C7k := lt_add C7z
              replace xC := xC.keep hky
              replace yC := yC.keep hky
              replace xv := xv.keep hky
              replace xw := xw.keep hky
              go_wp2_with fail
              refine (batches_same [J] anyB anyB _ _ 1 1 1 1 _ _ 0 0 _ (row_one (b := wy.heap.size) (cs := [.int .i64 J.I.rows, .int .i64 J.I.cols, .slice a1 n1 k1, .int .i64 J.W.rows, .int .i64 J.W.cols, .slice a2 n2 k2]) (T := 50) (by repeat (first | fail | (with_reducible refine (Box.new' _ _ _ _ ?_); (simp; done)) | (with_reducible refine Box.alloc ?_ _) | (with_reducible refine Box.drewN ?_ _) | (with_reducible refine Box.drew ?_) | (with_reducible refine Box.far ?_ ?_ _; rotate_left 1; (first | (dsimp only; omega) | omega | (simp; omega) | simp)))) (reads_bat (d := J) (fun _ => trivial) (show IntsAt _ a1 n1 k1 b1 o1 J.I.cells from (by repeat (first | fail | (with_reducible exact xC) | (with_reducible refine IntsAt.alloc ?_ _) | (with_reducible refine IntsAt.drewN ?_ _) | (with_reducible refine IntsAt.drew ?_) | (with_reducible refine IntsAt.set ?_ ?_ _; rotate_left 1; (intro h0; first | (dsimp only; omega) | omega | (simp; omega) | simp)) | exact xC))) (fun _ => trivial) (show IntsAt _ a2 n2 k2 b2 o2 J.W.cells from (by repeat (first | fail | (with_reducible exact yC) | (with_reducible refine IntsAt.alloc ?_ _) | (with_reducible refine IntsAt.drewN ?_ _) | (with_reducible refine IntsAt.drew ?_) | (with_reducible refine IntsAt.set ?_ ?_ _; rotate_left 1; (intro h0; first | (dsimp only; omega) | omega | (simp; omega) | simp)) | exact yC)))) trivial) (row_one (b := wy.heap.size + 1) (cs := [.int .i64 (rowsTo (insTo ds n) n), .int .i64 (colsTo (insTo ds n) n), .slice av (cellsTo (insTo ds n) n).length kv, .int .i64 (rowsTo (wantsTo ds n) n), .int .i64 (colsTo (wantsTo ds n) n), .slice aw (cellsTo (wantsTo ds n) n).length kw]) (T := 50) (by repeat (first | fail | (with_reducible refine (Box.new' _ _ _ _ ?_); (simp; done)) | (with_reducible refine Box.alloc ?_ _) | (with_reducible refine Box.drewN ?_ _) | (with_reducible refine Box.drew ?_) | (with_reducible refine Box.far ?_ ?_ _; rotate_left 1; (first | (dsimp only; omega) | omega | (simp; omega) | simp)))) (by rw [HJO.out]; exact reads_bat (d := ⟨⟨rowsTo (insTo ds n) n, colsTo (insTo ds n) n, cellsTo (insTo ds n) n⟩, ⟨rowsTo (wantsTo ds n) n, colsTo (wantsTo ds n) n, cellsTo (wantsTo ds n) n⟩⟩) (fun _ => trivial) (show IntsAt _ av (cellsTo (insTo ds n) n).length kv bv 0 (cellsTo (insTo ds n) n) from (by repeat (first | fail | (with_reducible exact xv) | (with_reducible refine IntsAt.alloc ?_ _) | (with_reducible refine IntsAt.drewN ?_ _) | (with_reducible refine IntsAt.drew ?_) | (with_reducible refine IntsAt.set ?_ ?_ _; rotate_left 1; (intro h0; first | (dsimp only; omega) | omega | (simp; omega) | simp)) | exact xv))) (fun _ => trivial) (show IntsAt _ aw (cellsTo (wantsTo ds n) n).length kw bw 0 (cellsTo (wantsTo ds n) n) from (by repeat (first | fail | (with_reducible exact xw) | (with_reducible refine IntsAt.alloc ?_ _) | (with_reducible refine IntsAt.drewN ?_ _) | (with_reducible refine IntsAt.drew ?_) | (with_reducible refine IntsAt.set ?_ ?_ _; rotate_left 1; (intro h0; first | (dsimp only; omega) | omega | (simp; omega) | simp)) | exact xw)))) trivial)).mono ?_
              rintro e wz ⟨rfl, hbz⟩
              have hbe : Below w.heap.size w wz := (by repeat (first | fail | (with_reducible exact Below.refl _ _) | (with_reducible exact hbG) | (with_reducible refine Below.al ?_ _) | (with_reducible refine Below.drN ?_ _) | (with_reducible refine Below.drew ?_) | (with_reducible refine Below.st ?_ ?_ _; rotate_left 1; (first | (dsimp only; omega) | omega | (simp; omega) | simp)) | (with_reducible refine Below.go ?_ hbz) | (with_reducible refine Below.go ?_ hby) | exact Below.refl _ _ | exact hbG))
              go_wp2
              go_ret
              exact ⟨rfl, hbe⟩
            · have HS : Hid (joinFault ds = 2) := Lib.hid (by rw [HJF.out, HSI0.out, if_neg (by simp), HSW.out, if_pos hs])
              have HNE : Hid ((2 : Int) ≠ 0) := Lib.hid (by decide)
              have HJN : Hid (J = ⟨Mat.none, Mat.none⟩) := Lib.hid (by rw [← HJ.out]; exact joined_bad (by rw [HS.out]; exact HNE.out))
              clear HX hs
              go_wp2_with fail
              have hhl := hh.lt
              obtain ⟨wC, hwC, C7, C3, hhC, xC, yC, hbC⟩ : ∃ wC, ((((((wG.setCell ⟨wA.heap.size, 0, none⟩ (.int .i64 0)).setCell ⟨wA.heap.size, 1, none⟩ (.int .i64 0)).setCell ⟨wA.heap.size, 2, none⟩ (.slice none 0 0)).setCell ⟨wA.heap.size, 3, none⟩ (.int .i64 0)).setCell ⟨wA.heap.size, 4, none⟩ (.int .i64 0)).setCell ⟨wA.heap.size, 5, none⟩ (.slice none 0 0)) = wC ∧ Box wC wA.heap.size [.int .i64 0, .int .i64 0, .slice none 0 0, .int .i64 0, .int .i64 0, .slice none 0 0] 50 ∧ Box wC w1.heap.size [.int .i64 J.I.rows, .int .i64 J.I.cols, .slice a1 n1 k1, .int .i64 J.W.rows, .int .i64 J.W.cols, .slice a2 n2 k2] 50 ∧ Handle wC ∧ IntsAt wC a1 n1 k1 b1 o1 J.I.cells ∧ IntsAt wC a2 n2 k2 b2 o2 J.W.cells ∧ Below w.heap.size w wC := by
                have hf : Far (fun b => b = wA.heap.size) wG ((((((wG.setCell ⟨wA.heap.size, 0, none⟩ (.int .i64 0)).setCell ⟨wA.heap.size, 1, none⟩ (.int .i64 0)).setCell ⟨wA.heap.size, 2, none⟩ (.slice none 0 0)).setCell ⟨wA.heap.size, 3, none⟩ (.int .i64 0)).setCell ⟨wA.heap.size, 4, none⟩ (.int .i64 0)).setCell ⟨wA.heap.size, 5, none⟩ (.slice none 0 0)) :=
                  ((((((Far.refl (fun b => b = wA.heap.size) wG).st (fun _ => rfl) _).st (fun _ => rfl) _).st (fun _ => rfl) _).st (fun _ => rfl) _).st (fun _ => rfl) _).st (fun _ => rfl) _
                exact ⟨_, rfl, (((((B7.set 0 _).set 1 _).set 2 _).set 3 _).set 4 _).set 5 _, B3.farS hf (by intro e; omega), hh.farS hf (by intro e; omega), x1.farS hf (fun h e => by have := l1 h; omega), x2.farS hf (fun h e => by have := l2 h; omega), Far.toBelow hbG hf (by omega) (fun k hk => by subst hk; omega)⟩
              rw [hwC]
              clear hwC
              refine (error_eq _ _ _ (by assumption) HS.out).mono ?_
              rintro e wy ⟨rfl, hby⟩
              have hky : Below wC.heap.size wC wy := (by repeat (first | fail | (with_reducible exact Below.refl _ _) | (with_reducible refine Below.al ?_ _) | (with_reducible refine Below.drN ?_ _) | (with_reducible refine Below.drew ?_) | (with_reducible refine Below.st ?_ ?_ _; rotate_left 1; (first | (dsimp only; omega) | omega | (simp; omega) | simp)) | (with_reducible refine Below.go ?_ hby) | exact Below.refl _ _))
              have C3 := C3.keep hky
              have C3c := C3.cell
              have C3f := C3.thawed
              have C3z := C3.lt
              have C3k := lt_add C3z
              have C7 := C7.keep hky
              have C7c := C7.cell
              have C7f := C7.thawed
              have C7z := C7.lt
              have C7k := lt_add C7z
              replace xC := xC.keep hky
              replace yC := yC.keep hky
              go_wp2_with fail
              refine (batches_same [J] anyB anyB _ _ 1 1 1 1 _ _ 0 0 _ (row_one (b := wy.heap.size) (cs := [.int .i64 J.I.rows, .int .i64 J.I.cols, .slice a1 n1 k1, .int .i64 J.W.rows, .int .i64 J.W.cols, .slice a2 n2 k2]) (T := 50) (by repeat (first | fail | (with_reducible refine (Box.new' _ _ _ _ ?_); (simp; done)) | (with_reducible refine Box.alloc ?_ _) | (with_reducible refine Box.drewN ?_ _) | (with_reducible refine Box.drew ?_) | (with_reducible refine Box.far ?_ ?_ _; rotate_left 1; (first | (dsimp only; omega) | omega | (simp; omega) | simp)))) (reads_bat (d := J) (fun _ => trivial) (show IntsAt _ a1 n1 k1 b1 o1 J.I.cells from (by repeat (first | fail | (with_reducible exact xC) | (with_reducible refine IntsAt.alloc ?_ _) | (with_reducible refine IntsAt.drewN ?_ _) | (with_reducible refine IntsAt.drew ?_) | (with_reducible refine IntsAt.set ?_ ?_ _; rotate_left 1; (intro h0; first | (dsimp only; omega) | omega | (simp; omega) | simp)) | exact xC))) (fun _ => trivial) (show IntsAt _ a2 n2 k2 b2 o2 J.W.cells from (by repeat (first | fail | (with_reducible exact yC) | (with_reducible refine IntsAt.alloc ?_ _) | (with_reducible refine IntsAt.drewN ?_ _) | (with_reducible refine IntsAt.drew ?_) | (with_reducible refine IntsAt.set ?_ ?_ _; rotate_left 1; (intro h0; first | (dsimp only; omega) | omega | (simp; omega) | simp)) | exact yC)))) trivial) (row_one (b := wy.heap.size + 1) (cs := [.int .i64 0, .int .i64 0, .slice none 0 0, .int .i64 0, .int .i64 0, .slice none 0 0]) (T := 50) (by repeat (first | fail | (with_reducible refine (Box.new' _ _ _ _ ?_); (simp; done)) | (with_reducible refine Box.alloc ?_ _) | (with_reducible refine Box.drewN ?_ _) | (with_reducible refine Box.drew ?_) | (with_reducible refine Box.far ?_ ?_ _; rotate_left 1; (first | (dsimp only; omega) | omega | (simp; omega) | simp)))) (by rw [HJN.out]; exact reads_bat (d := ⟨Mat.none, Mat.none⟩) (n := 0) (n' := 0) (b := 0) (b' := 0) (o := 0) (o' := 0) (fun _ => trivial) (ints_none _) (fun _ => trivial) (ints_none _)) trivial)).mono ?_
              rintro e wz ⟨rfl, hbz⟩
              have hbe : Below w.heap.size w wz := (by repeat (first | fail | (with_reducible exact Below.refl _ _) | (with_reducible exact hbC) | (with_reducible refine Below.al ?_ _) | (with_reducible refine Below.drN ?_ _) | (with_reducible refine Below.drew ?_) | (with_reducible refine Below.st ?_ ?_ _; rotate_left 1; (first | (dsimp only; omega) | omega | (simp; omega) | simp)) | (with_reducible refine Below.go ?_ hbz) | (with_reducible refine Below.go ?_ hby) | exact Below.refl _ _ | exact hbC))
              go_wp2
              go_ret
              exact ⟨rfl, hbe⟩
        · have HS : Hid (joinFault ds = 2) := Lib.hid (by rw [HJF.out, show stackFault (insTo ds n) = 2 by rw [HSI.out, if_pos hs], if_pos (by decide)])
          have HNE : Hid ((2 : Int) ≠ 0) := Lib.hid (by decide)
          clear HX hs
          have HJN : Hid (J = ⟨Mat.none, Mat.none⟩) := Lib.hid (by rw [← HJ.out]; exact joined_bad (by rw [HS.out]; exact HNE.out))
          go_wp2_with fail
          go_loopw [5, 9] (fun e i wr => e = .int .i64 (2) ∧ i = .int .i64 0 ∧ wE = wr) (fun _ _ _ => 0)
          case atStart => exact ⟨rfl, rfl, rfl⟩
          case round =>
            obtain ⟨rfl, rfl, rfl⟩ := hrel
            go_wp2_with fail
            have hhl := hh.lt
            obtain ⟨wC, hwC, C7, C3, hhC, xC, yC, hbC⟩ : ∃ wC, ((((((wE.setCell ⟨wA.heap.size, 0, none⟩ (.int .i64 0)).setCell ⟨wA.heap.size, 1, none⟩ (.int .i64 0)).setCell ⟨wA.heap.size, 2, none⟩ (.slice none 0 0)).setCell ⟨wA.heap.size, 3, none⟩ (.int .i64 0)).setCell ⟨wA.heap.size, 4, none⟩ (.int .i64 0)).setCell ⟨wA.heap.size, 5, none⟩ (.slice none 0 0)) = wC ∧ Box wC wA.heap.size [.int .i64 0, .int .i64 0, .slice none 0 0, .int .i64 0, .int .i64 0, .slice none 0 0] 50 ∧ Box wC w1.heap.size [.int .i64 J.I.rows, .int .i64 J.I.cols, .slice a1 n1 k1, .int .i64 J.W.rows, .int .i64 J.W.cols, .slice a2 n2 k2] 50 ∧ Handle wC ∧ IntsAt wC a1 n1 k1 b1 o1 J.I.cells ∧ IntsAt wC a2 n2 k2 b2 o2 J.W.cells ∧ Below w.heap.size w wC := by
              have hf : Far (fun b => b = wA.heap.size) wE ((((((wE.setCell ⟨wA.heap.size, 0, none⟩ (.int .i64 0)).setCell ⟨wA.heap.size, 1, none⟩ (.int .i64 0)).setCell ⟨wA.heap.size, 2, none⟩ (.slice none 0 0)).setCell ⟨wA.heap.size, 3, none⟩ (.int .i64 0)).setCell ⟨wA.heap.size, 4, none⟩ (.int .i64 0)).setCell ⟨wA.heap.size, 5, none⟩ (.slice none 0 0)) :=
                ((((((Far.refl (fun b => b = wA.heap.size) wE).st (fun _ => rfl) _).st (fun _ => rfl) _).st (fun _ => rfl) _).st (fun _ => rfl) _).st (fun _ => rfl) _).st (fun _ => rfl) _
              exact ⟨_, rfl, (((((B7.set 0 _).set 1 _).set 2 _).set 3 _).set 4 _).set 5 _, B3.farS hf (by intro e; omega), hh.farS hf (by intro e; omega), x1.farS hf (fun h e => by have := l1 h; omega), x2.farS hf (fun h e => by have := l2 h; omega), Far.toBelow hbE hf (by omega) (fun k hk => by subst hk; omega)⟩
            rw [hwC]
            clear hwC
            refine (error_eq _ _ _ (by assumption) HS.out).mono ?_
            rintro e wy ⟨rfl, hby⟩
            have hky : Below wC.heap.size wC wy := (by repeat (first | fail | (with_reducible exact Below.refl _ _) | (with_reducible refine Below.al ?_ _) | (with_reducible refine Below.drN ?_ _) | (with_reducible refine Below.drew ?_) | (with_reducible refine Below.st ?_ ?_ _; rotate_left 1; (first | (dsimp only; omega) | omega | (simp; omega) | simp)) | (with_reducible refine Below.go ?_ hby) | exact Below.refl _ _))
            have C3 := C3.keep hky
            have C3c := C3.cell
            have C3f := C3.thawed
            have C3z := C3.lt
            have C3k := lt_add C3z
            have C7 := C7.keep hky
            have C7c := C7.cell
            have C7f := C7.thawed
            have C7z := C7.lt
            have C7k := lt_add C7z
            replace xC := xC.keep hky
            replace yC := yC.keep hky
            go_wp2_with fail
            refine (batches_same [J] anyB anyB _ _ 1 1 1 1 _ _ 0 0 _ (row_one (b := wy.heap.size) (cs := [.int .i64 J.I.rows, .int .i64 J.I.cols, .slice a1 n1 k1, .int .i64 J.W.rows, .int .i64 J.W.cols, .slice a2 n2 k2]) (T := 50) (by repeat (first | fail | (with_reducible refine (Box.new' _ _ _ _ ?_); (simp; done)) | (with_reducible refine Box.alloc ?_ _) | (with_reducible refine Box.drewN ?_ _) | (with_reducible refine Box.drew ?_) | (with_reducible refine Box.far ?_ ?_ _; rotate_left 1; (first | (dsimp only; omega) | omega | (simp; omega) | simp)))) (reads_bat (d := J) (fun _ => trivial) (show IntsAt _ a1 n1 k1 b1 o1 J.I.cells from (by repeat (first | fail | (with_reducible exact xC) | (with_reducible refine IntsAt.alloc ?_ _) | (with_reducible refine IntsAt.drewN ?_ _) | (with_reducible refine IntsAt.drew ?_) | (with_reducible refine IntsAt.set ?_ ?_ _; rotate_left 1; (intro h0; first | (dsimp only; omega) | omega | (simp; omega) | simp)) | exact xC))) (fun _ => trivial) (show IntsAt _ a2 n2 k2 b2 o2 J.W.cells from (by repeat (first | fail | (with_reducible exact yC) | (with_reducible refine IntsAt.alloc ?_ _) | (with_reducible refine IntsAt.drewN ?_ _) | (with_reducible refine IntsAt.drew ?_) | (with_reducible refine IntsAt.set ?_ ?_ _; rotate_left 1; (intro h0; first | (dsimp only; omega) | omega | (simp; omega) | simp)) | exact yC)))) trivial) (row_one (b := wy.heap.size + 1) (cs := [.int .i64 0, .int .i64 0, .slice none 0 0, .int .i64 0, .int .i64 0, .slice none 0 0]) (T := 50) (by repeat (first | fail | (with_reducible refine (Box.new' _ _ _ _ ?_); (simp; done)) | (with_reducible refine Box.alloc ?_ _) | (with_reducible refine Box.drewN ?_ _) | (with_reducible refine Box.drew ?_) | (with_reducible refine Box.far ?_ ?_ _; rotate_left 1; (first | (dsimp only; omega) | omega | (simp; omega) | simp)))) (by rw [HJN.out]; exact reads_bat (d := ⟨Mat.none, Mat.none⟩) (n := 0) (n' := 0) (b := 0) (b' := 0) (o := 0) (o' := 0) (fun _ => trivial) (ints_none _) (fun _ => trivial) (ints_none _)) trivial)).mono ?_
            rintro e wz ⟨rfl, hbz⟩
            have hbe : Below w.heap.size w wz := (by repeat (first | fail | (with_reducible exact Below.refl _ _) | (with_reducible exact hbC) | (with_reducible refine Below.al ?_ _) | (with_reducible refine Below.drN ?_ _) | (with_reducible refine Below.drew ?_) | (with_reducible refine Below.st ?_ ?_ _; rotate_left 1; (first | (dsimp only; omega) | omega | (simp; omega) | simp)) | (with_reducible refine Below.go ?_ hbz) | (with_reducible refine Below.go ?_ hby) | exact Below.refl _ _ | exact hbC))
            go_wp2
            go_ret
            exact ⟨rfl, hbe⟩
      · have HS : Hid (joinFault ds = batFaultTo ds n) := Lib.hid (by unfold joinFault; rw [if_neg HN0.out, HLEN.out, if_pos hf])
        have HNE := Lib.hid hf
        have g1 : (batFaultTo ds n == 0) = false := by simp [hf]
        have g4 : (batFaultTo ds n != 0) = true := by simp [hf]
        have g3 : (0 : Int) < (n : Int) := by omega
        clear hf
        have HJN : Hid (J = ⟨Mat.none, Mat.none⟩) := Lib.hid (by rw [← HJ.out]; exact joined_bad (by rw [HS.out]; exact HNE.out))
        go_wp2_with fail
        obtain ⟨wB, hwB, B7, B3, hh, x1, x2, hbB, hbB'⟩ : ∃ wB, wA.alloc (.cells #[.int .i64 0, .int .i64 0, .slice none 0 0, .int .i64 0, .int .i64 0, .slice none 0 0] 50) = wB ∧ Box wB wA.heap.size [.int .i64 0, .int .i64 0, .slice none 0 0, .int .i64 0, .int .i64 0, .slice none 0 0] 50 ∧ Box wB w1.heap.size [.int .i64 J.I.rows, .int .i64 J.I.cols, .slice a1 n1 k1, .int .i64 J.W.rows, .int .i64 J.W.cols, .slice a2 n2 k2] 50 ∧ Handle wB ∧ IntsAt wB a1 n1 k1 b1 o1 J.I.cells ∧ IntsAt wB a2 n2 k2 b2 o2 J.W.cells ∧ Below w.heap.size w wB ∧ Below wA.heap.size wA wB := ⟨_, rfl, Box.new _ _ _, (by repeat (first | fail | (with_reducible exact B3) | (with_reducible refine Box.alloc ?_ _) | (with_reducible refine Box.drewN ?_ _) | (with_reducible refine Box.drew ?_) | (with_reducible refine Box.far ?_ ?_ _; rotate_left 1; (first | (dsimp only; omega) | omega | (simp; omega) | simp)) | exact B3)), hh.alloc _, (by repeat (first | fail | (with_reducible exact x1) | (with_reducible refine IntsAt.alloc ?_ _) | (with_reducible refine IntsAt.drewN ?_ _) | (with_reducible refine IntsAt.drew ?_) | (with_reducible refine IntsAt.set ?_ ?_ _; rotate_left 1; (intro h0; first | (dsimp only; omega) | omega | (simp; omega) | simp)) | exact x1)), (by repeat (first | fail | (with_reducible exact x2) | (with_reducible refine IntsAt.alloc ?_ _) | (with_reducible refine IntsAt.drewN ?_ _) | (with_reducible refine IntsAt.drew ?_) | (with_reducible refine IntsAt.set ?_ ?_ _; rotate_left 1; (intro h0; first | (dsimp only; omega) | omega | (simp; omega) | simp)) | exact x2)), (by repeat (first | fail | (with_reducible exact Below.refl _ _) | (with_reducible exact hbA) | (with_reducible refine Below.al ?_ _) | (with_reducible refine Below.drN ?_ _) | (with_reducible refine Below.drew ?_) | (with_reducible refine Below.st ?_ ?_ _; rotate_left 1; (first | (dsimp only; omega) | omega | (simp; omega) | simp)) | exact Below.refl _ _ | exact hbA)), (by repeat (first | fail | (with_reducible exact Below.refl _ _) | (with_reducible refine Below.al ?_ _) | (with_reducible refine Below.drN ?_ _) | (with_reducible refine Below.drew ?_) | (with_reducible refine Below.st ?_ ?_ _; rotate_left 1; (first | (dsimp only; omega) | omega | (simp; omega) | simp)) | exact Below.refl _ _))⟩
        rw [hwB]
        clear hwB
        have hz7 : wA.heap.size < wB.heap.size := B7.lt
        have hzw := hbA.size
        have B3 := B3
        have B3c := B3.cell
        have B3f := B3.thawed
        have B3z := B3.lt
        have B3k := lt_add B3z
        have B7 := B7
        have B7c := B7.cell
        have B7f := B7.thawed
        have B7z := B7.lt
        have B7k := lt_add B7z
        go_loopw [5, 8] (fun e i wr => e = .int .i64 (batFaultTo ds n) ∧ i = .int .i64 0 ∧ wB = wr) (fun _ _ _ => 0)
        case atStart => exact ⟨rfl, rfl, rfl⟩
        case round =>
          obtain ⟨rfl, rfl, rfl⟩ := hrel
          have HJN : Hid (J = ⟨Mat.none, Mat.none⟩) := Lib.hid (by rw [← HJ.out]; exact joined_bad (by rw [HS.out]; exact HNE.out))
          go_wp2_with fail
          go_loopw [5, 9] (fun e i wr => e = .int .i64 (batFaultTo ds n) ∧ i = .int .i64 0 ∧ wB = wr) (fun _ _ _ => 0)
          case atStart => exact ⟨rfl, rfl, rfl⟩
          case round =>
            obtain ⟨rfl, rfl, rfl⟩ := hrel
            go_wp2_with fail
            have hhl := hh.lt
            obtain ⟨wC, hwC, C7, C3, hhC, xC, yC, hbC⟩ : ∃ wC, ((((((wB.setCell ⟨wA.heap.size, 0, none⟩ (.int .i64 0)).setCell ⟨wA.heap.size, 1, none⟩ (.int .i64 0)).setCell ⟨wA.heap.size, 2, none⟩ (.slice none 0 0)).setCell ⟨wA.heap.size, 3, none⟩ (.int .i64 0)).setCell ⟨wA.heap.size, 4, none⟩ (.int .i64 0)).setCell ⟨wA.heap.size, 5, none⟩ (.slice none 0 0)) = wC ∧ Box wC wA.heap.size [.int .i64 0, .int .i64 0, .slice none 0 0, .int .i64 0, .int .i64 0, .slice none 0 0] 50 ∧ Box wC w1.heap.size [.int .i64 J.I.rows, .int .i64 J.I.cols, .slice a1 n1 k1, .int .i64 J.W.rows, .int .i64 J.W.cols, .slice a2 n2 k2] 50 ∧ Handle wC ∧ IntsAt wC a1 n1 k1 b1 o1 J.I.cells ∧ IntsAt wC a2 n2 k2 b2 o2 J.W.cells ∧ Below w.heap.size w wC := by
              have hf : Far (fun b => b = wA.heap.size) wB ((((((wB.setCell ⟨wA.heap.size, 0, none⟩ (.int .i64 0)).setCell ⟨wA.heap.size, 1, none⟩ (.int .i64 0)).setCell ⟨wA.heap.size, 2, none⟩ (.slice none 0 0)).setCell ⟨wA.heap.size, 3, none⟩ (.int .i64 0)).setCell ⟨wA.heap.size, 4, none⟩ (.int .i64 0)).setCell ⟨wA.heap.size, 5, none⟩ (.slice none 0 0)) :=
                ((((((Far.refl (fun b => b = wA.heap.size) wB).st (fun _ => rfl) _).st (fun _ => rfl) _).st (fun _ => rfl) _).st (fun _ => rfl) _).st (fun _ => rfl) _).st (fun _ => rfl) _
              exact ⟨_, rfl, (((((B7.set 0 _).set 1 _).set 2 _).set 3 _).set 4 _).set 5 _, B3.farS hf (by intro e; omega), hh.farS hf (by intro e; omega), x1.farS hf (fun h e => by have := l1 h; omega), x2.farS hf (fun h e => by have := l2 h; omega), Far.toBelow hbB hf (by omega) (fun k hk => by subst hk; omega)⟩
            rw [hwC]
            clear hwC
            refine (error_eq _ _ _ (by assumption) HS.out).mono ?_
            rintro e wy ⟨rfl, hby⟩
            have hky : Below wC.heap.size wC wy := (by repeat (first | fail | (with_reducible exact Below.refl _ _) | (with_reducible refine Below.al ?_ _) | (with_reducible refine Below.drN ?_ _) | (with_reducible refine Below.drew ?_) | (with_reducible refine Below.st ?_ ?_ _; rotate_left 1; (first | (dsimp only; omega) | omega | (simp; omega) | simp)) | (with_reducible refine Below.go ?_ hby) | exact Below.refl _ _))
            have C3 := C3.keep hky
            have C3c := C3.cell
            have C3f := C3.thawed
            have C3z := C3.lt
            have C3k := lt_add C3z
            have C7 := C7.keep hky
            have C7c := C7.cell
            have C7f := C7.thawed
            have C7z := C7.lt
            have C7k := lt_add C7z
            replace xC := xC.keep hky
            replace yC := yC.keep hky
            go_wp2_with fail
            refine (batches_same [J] anyB anyB _ _ 1 1 1 1 _ _ 0 0 _ (row_one (b := wy.heap.size) (cs := [.int .i64 J.I.rows, .int .i64 J.I.cols, .slice a1 n1 k1, .int .i64 J.W.rows, .int .i64 J.W.cols, .slice a2 n2 k2]) (T := 50) (by repeat (first | fail | (with_reducible refine (Box.new' _ _ _ _ ?_); (simp; done)) | (with_reducible refine Box.alloc ?_ _) | (with_reducible refine Box.drewN ?_ _) | (with_reducible refine Box.drew ?_) | (with_reducible refine Box.far ?_ ?_ _; rotate_left 1; (first | (dsimp only; omega) | omega | (simp; omega) | simp)))) (reads_bat (d := J) (fun _ => trivial) (show IntsAt _ a1 n1 k1 b1 o1 J.I.cells from (by repeat (first | fail | (with_reducible exact xC) | (with_reducible refine IntsAt.alloc ?_ _) | (with_reducible refine IntsAt.drewN ?_ _) | (with_reducible refine IntsAt.drew ?_) | (with_reducible refine IntsAt.set ?_ ?_ _; rotate_left 1; (intro h0; first | (dsimp only; omega) | omega | (simp; omega) | simp)) | exact xC))) (fun _ => trivial) (show IntsAt _ a2 n2 k2 b2 o2 J.W.cells from (by repeat (first | fail | (with_reducible exact yC) | (with_reducible refine IntsAt.alloc ?_ _) | (with_reducible refine IntsAt.drewN ?_ _) | (with_reducible refine IntsAt.drew ?_) | (with_reducible refine IntsAt.set ?_ ?_ _; rotate_left 1; (intro h0; first | (dsimp only; omega) | omega | (simp; omega) | simp)) | exact yC)))) trivial) (row_one (b := wy.heap.size + 1) (cs := [.int .i64 0, .int .i64 0, .slice none 0 0, .int .i64 0, .int .i64 0, .slice none 0 0]) (T := 50) (by repeat (first | fail | (with_reducible refine (Box.new' _ _ _ _ ?_); (simp; done)) | (with_reducible refine Box.alloc ?_ _) | (with_reducible refine Box.drewN ?_ _) | (with_reducible refine Box.drew ?_) | (with_reducible refine Box.far ?_ ?_ _; rotate_left 1; (first | (dsimp only; omega) | omega | (simp; omega) | simp)))) (by rw [HJN.out]; exact reads_bat (d := ⟨Mat.none, Mat.none⟩) (n := 0) (n' := 0) (b := 0) (b' := 0) (o := 0) (o' := 0) (fun _ => trivial) (ints_none _) (fun _ => trivial) (ints_none _)) trivial)).mono ?_
            rintro e wz ⟨rfl, hbz⟩
            have hbe : Below w.heap.size w wz := (by repeat (first | fail | (with_reducible exact Below.refl _ _) | (with_reducible exact hbC) | (with_reducible refine Below.al ?_ _) | (with_reducible refine Below.drN ?_ _) | (with_reducible refine Below.drew ?_) | (with_reducible refine Below.st ?_ ?_ _; rotate_left 1; (first | (dsimp only; omega) | omega | (simp; omega) | simp)) | (with_reducible refine Below.go ?_ hbz) | (with_reducible refine Below.go ?_ hby) | exact Below.refl _ _ | exact hbC))
            go_wp2
            go_ret
            exact ⟨rfl, hbe⟩

theorem own : ownKnob Tryd.prog.godebug = none := by kernel_rfl
theorem laidOut : laidOutB Tryd.prog = true := by kernel_rfl
theorem et : Tryd.prog.globalNamed "errors.errorType" = some 0 := by kernel_rfl
theorem rt : (Tryd.prog.cutTypes.find? (·.1 == "internal/reflectlite.rtype")).map (·.2) = some 135 := by kernel_rfl
theorem oneRow : ((List.range 183).filter fun t => Tryd.prog.rowNamed t [101, 114, 114, 111, 114]) = [27] := by kernel_rfl
theorem tsize : Tryd.prog.types.size = 183 := by kernel_rfl
theorem handle_of_laid {W : World} (h : laidMetH Tryd.prog Rows.batchJoinsUptoRow.laid W) : Handle W := by
  have h' : laidMet Tryd.prog [] W ∧ handlesMet Tryd.prog Rows.batchJoinsUptoRow.laid W := h
  obtain ⟨name, u, ty, e1, e2, e3, e4, e5⟩ := h'.2 _ (List.mem_singleton.2 rfl)
  have en : name = [101, 114, 114, 111, 114] := (Option.some.inj e1).symm
  subst en
  obtain rfl := Option.some.inj (rt.symm.trans e2)
  have hm : ty ∈ (List.range 183).filter fun t => Tryd.prog.rowNamed t [101, 114, 114, 111, 114] := List.mem_filter.2 ⟨List.mem_range.2 (by rw [← tsize]; exact e3), e4⟩
  rw [oneRow] at hm
  obtain rfl := List.mem_singleton.1 hm
  have hh : typeHandle Tryd.prog 27 = .pointer (some ⟨1, 27, none⟩) := by kernel_rfl
  rw [hh] at e5
  simpa [Handle, handleV] using World.var?_cell et e5 0
noncomputable def laidWorld (os : Os) : World :=
  { World.holding Tryd.prog os ⟨#[], #[], []⟩ with heap := (World.holding Tryd.prog os ⟨#[], #[], []⟩).heap.modify 0 fun
      | .cells _ t frozen => .cells #[.iface 135 (.agg #[.pointer (some ⟨1, 27, none⟩)])] t frozen
      | o => o }
theorem laid_met (os : Os) : laidMetH Tryd.prog Rows.batchJoinsUptoRow.laid ((laidWorld os).forCall (fun _ _ => 0) ⟨#[], #[.slice none 0 0], []⟩).memory :=
  laidMetH_of_parts (laidMet_nil _ _) (by kernel_rfl)
theorem reads (os : Os) {H : Type} (enc : TypeId × Value → H) : ∃ places, DataW.whole enc Tryd.prog ((laidWorld os).forCall (fun _ _ => 0) ⟨#[], #[.slice none 0 0], []⟩).memory Tryd.f5.params.toList Rows.batchJoinsSpec.vars false (#[.slice none 0 0] : Array Value).toList 8 = some ([.nil], [], places) :=
  ⟨[], by kernel_rfl⟩
set_option maxRecDepth 100000 in
set_option maxHeartbeats 1000000 in
theorem contract (H : Type) (enc : TypeId × Value → H) (W : World) (base : Nat) (args : Array Value) (ds gs : List (DataW H)) (before : List MemPlace)
    (hval0 : ∀ (j : Nat) t v, Tryd.f5.params[j]? = some t → args[j]? = some v → Value.okWide Tryd.prog W .any base t v)
    (hW : DataW.Whole enc Tryd.prog Tryd.f5.params.toList Rows.batchJoinsSpec.vars false W args.toList ds gs before) (hh : Handle W) (hk : Rows.uptoBulkAll (ds ++ gs) ≤ 1048576) :
    Calls Tryd.prog 5 args W fun e W' => ∃ v, e = .returned v ∧ Rows.batchJoinsSpec.post enc Tryd.prog Tryd.f5 false true false false W args v W' := by
  have hval := hval0
  have hW' := hW
  obtain ⟨p, q, hA0, hV, rfl, hfz, hnd⟩ := hW
  have hA : DataW.TrodAll enc Tryd.prog W 0 (fun _ => true) true Tryd.f5.params.toList args.toList ds p := hA0
  rw [Tryd.params5] at hA hval
  obtain ⟨v0, vs0, d0, ds0, p0, q0, hargs, rfl, rfl, h0, r0⟩ := trodAll_cons hA
  obtain ⟨rfl, rfl, rfl⟩ := trodAll_nil r0
  obtain rfl : args = #[v0] := by cases args; simp_all
  obtain ⟨rfl, rfl⟩ := trodVars_none hV
  simp only [List.append_nil, List.cons_append, List.nil_append, Rows.uptoBulkAll] at hk
  have k0 := h0
  have lt0 : ∀ x ∈ p0, x.block < W.heap.size := by obtain ⟨m, hm⟩ := k0; exact DataW.trod_lt m _ _ _ hm
  obtain ⟨a0, w0, z0⟩ := open_lBatch_upto (hval 0 48 v0 rfl rfl) h0
  clear hA0 hval0
  refine (walk a0 v0 W w0 hh (by first | omega | (simp only [Rows.uptoBulk] at hk; omega))).mono fun e W' ⟨he, bel⟩ => ?_
  subst he
  exact ⟨_, rfl, _, _, _, [], _, [], hW', trodAll_mk1 (shut_bool Tryd.underlying4 _), (trodAll_cons_mk (Below.trod laidOut (by kernel_rfl) (of_decide_eq_true (by kernel_rfl)) k0 bel lt0) trodAll_mk0), rfl, bel.frame _, fun h => by cases h⟩

set_option maxRecDepth 100000 in
theorem lifted (os : Os) (started : os.Started) (H : Type) (enc : TypeId × Value → H) (F : Stop.Interp) :
    ReturnsInHanded {} Tryd.checked os 5 .any ((Rows.OpenSpec.upto Rows.batchJoinsSpec).preRow enc Tryd.prog Tryd.f5 Rows.batchJoinsUptoRow.domain false Rows.batchJoinsUptoRow.laid) (((Rows.OpenSpec.upto Rows.batchJoinsSpec).at F).post enc Tryd.prog Tryd.f5 false true false false) := by
  obtain ⟨places, hx⟩ := reads os enc
  refine returnsInHanded_of_row (C := Tryd.checked) (s := Rows.OpenSpec.upto Rows.batchJoinsSpec) own started (by kernel_rfl) Tryd.func5
    (witness_row_at (enc := enc) (C := Tryd.checked) false (laidWorld os) #[.slice none 0 0] rfl (by kernel_rfl) (by kernel_rfl) (by kernel_rfl)
      (OpenSpec.preRow_of_cond 8 hx (by kernel_rfl) (fun k hk => by cases hk; kernel_rfl) (by kernel_rfl) (laid_met os))) ?_
  intro W base args ds gs before hval hW _ hcond _ hL _ _
  exact contract H enc W base args ds gs before hval hW (handle_of_laid hL) (of_decide_eq_true (hcond _ rfl))

theorem said : Rows.BatchJoinsUptoSaid :=
  OpenClaim.holds_of_cond 5 Tryd.f5 rfl rfl rfl rfl rfl rfl rfl ⟨rfl, rfl, rfl, rfl, rfl⟩ rfl rfl rfl rfl rfl (by kernel_rfl) Tryd.func5 (by kernel_rfl)
    (of_decide_eq_true (by kernel_rfl)) (by unfold Func.isWrapper; first | (rw [if_pos (by decide +kernel)]; kernel_rfl) | (rw [if_neg (by decide +kernel)]; exact ⟨rfl, rfl⟩))
    (fun os started H enc _ F => by rw [OpenClaim.pre_eq_preRow]; exact lifted os started H enc F)
theorem plain (f : FuncId) (fn : Func) (hf : Tryd.pinned.checked.prog.funcNamed Rows.batchJoinsUptoRow.func = some f) (hfn : Tryd.pinned.checked.prog.funcs[f]? = some fn) :
    Rows.batchJoinsUptoCard.stood.looks = Tryd.pinned.checked.prog.looks [] ∧ ∀ (j : Nat) t, fn.params[j]? = some t → Tryd.pinned.checked.prog.wantsStandIn t = false := by
  obtain rfl : f = 5 := Option.some.inj ((show Tryd.prog.funcNamed Rows.batchJoinsUptoRow.func = some 5 by kernel_rfl).symm.trans hf) |>.symm
  obtain rfl : fn = Tryd.f5 := (Option.some.inj (Tryd.func5.symm.trans hfn)).symm
  refine ⟨by kernel_rfl, fun j t ht => ?_⟩
  rw [Tryd.params5] at ht
  have hm := Array.mem_of_getElem? ht
  have hc : t = 48 := by simpa using hm
  rcases hc with rfl
  · exact (show Tryd.prog.wantsStandIn 48 = false by kernel_rfl)
theorem proved : Rows.BatchJoinsUptoCardSaid :=
  Claim7.holds_tied_plain_at .later [] _ _ _ _ said (fun _ h => by cases h) (by kernel_rfl) (fun _ h => by cases h) batchJoinsUpto_row_tie rfl ⟨rfl, rfl⟩ (by kernel_rfl) rfl plain (by kernel_rfl)
#print axioms proved

end Go.Proofs.YtikcdjibflleeaaDoor.lawBatchJoins
