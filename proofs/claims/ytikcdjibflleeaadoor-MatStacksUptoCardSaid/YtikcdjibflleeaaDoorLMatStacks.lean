/- MatStacks, where what it reads is of bulk at most 1048576: any matrices, one behind the other, are stacked as the document says, or what is wrong is told: the law returns true, and the input reads as it did. -/
import Derived.Test.YtikcdjibflleeaaDoorCards
import Derived.Test.YtikcdjibflleeaaDoorTie
import Derived.Test.YtikcdjibflleeaaDoorUpto
import Derived.Test.YtikcdjibflleeaaDoorStackAll
import Derived.Test.YtikcdjibflleeaaDoorTold
import Derived.Test.YtikcdjibflleeaaDoorUni
import Derived.Test.YtikcdjibflleeaaDoorRef1
import Derived.Test.YtikcdjibflleeaaDoorGrads
import Derived.Deep.DeepHandedRow
import Derived.Deep.CutBlock
import Derived.Deep.DeepCutAuto
import Derived.BigQuiet
set_option linter.unusedVariables false
set_option linter.unusedSimpArgs false
set_option linter.unusedSectionVars false
namespace Gal
theorem stack_ff {ms : List Mat} (h : firstFault ms ≠ 0) : stackFault ms = firstFault ms := by unfold stackFault; rw [if_pos h]
theorem stack_nil {ms : List Mat} (h : firstFault ms = 0) (h0 : ms.length = 0) : stackFault ms = 2 := by unfold stackFault; rw [if_neg (by simp [h]), if_pos h0]
theorem stack_cols {ms : List Mat} (h : firstFault ms = 0) (h0 : ms.length ≠ 0) (hc : ¬ sameCols ms) : stackFault ms = 2 := by unfold stackFault; rw [if_neg (by simp [h]), if_neg h0, if_pos hc]
theorem stack_rows {ms : List Mat} (h : firstFault ms = 0) (h0 : ms.length ≠ 0) (hc : sameCols ms) (hr : 24 < rowsTo ms ms.length) : stackFault ms = 3 := by unfold stackFault; rw [if_neg (by simp [h]), if_neg h0, if_neg (by simp [hc]), if_pos hr]
theorem stack_fine {ms : List Mat} (h : firstFault ms = 0) (h0 : ms.length ≠ 0) (hc : sameCols ms) (hr : ¬ 24 < rowsTo ms ms.length) : stackFault ms = 0 := by unfold stackFault; rw [if_neg (by simp [h]), if_neg h0, if_neg (by simp [hc]), if_neg hr]
theorem sameCols_of {ms : List Mat} {n : Nat} (hl : ms.length = n) (h : ∀ j, j < n → (mx ms j).cols = (mx ms 0).cols) : sameCols ms := fun j hj => h j (by omega)
def colsTo (ms : List Mat) (k : Nat) : Int := if k = 0 then 0 else (mx ms 0).cols
end Gal
namespace Gal
open Go Go.RowKit
theorem step_append_ints {P : Program} {w : World} {ops : Array Oper} {o : Oper} {a : Act} {K : Act → World → Prop} {Q : Exit → Act → World → Prop} {E : Prop} (hgd : o.guard = none) (s x : Operand) (t : TypeId)
    (ho : o.op = .call { callee := .builtin .append, args := #[s, x], argTypes := #[t, t] })
    (base : Nat) (e : TypeId) (i : TypeInfo) (ht : P.underlying t = some (.slice e)) (hi : P.info? e = some i) (hz : i.zero = some (.int .i64 0))
    (hsize : i.size = 1) (hby : i.bytes = 8)
    (v : Value) (n : Nat) (xs : List Int) (hs : a.eval s = v) (hown : w.ownsRow base e 1 v n (xs.map (Value.int .i64)))
    (a' : Option Addr) (n' cap' b' off' : Nat) (ys : List Int) (hx : a.eval x = .slice a' n' cap') (hy : IntsAt w a' n' cap' b' off' ys)
    (hbytes : (n + n') * 8 ≤ 140737488355328) (hbase : base ≤ w.heap.size)
    (h : ∀ v' w', w'.ownsRow base e 1 v' (n + n') ((xs ++ ys).map (Value.int .i64)) → w.grownBy w' v.ownBlock → K (a.put o.dst v') w') :
    if Region.wanted o (yielded ops a.tmps) = true then Oper.wp P o a w K Q else E := by
  rw [if_pos (by simp [Region.wanted, hgd])]
  exact wp_append_ints s x t ho base e i ht hi hz hsize hby v n xs hs hown a' n' cap' b' off' ys hx hy hbytes hbase h
end Gal
namespace Gal
open Go Go.RowKit
theorem cell_off {w : World} {b c o i : Nat} {u : Value} (hne : b ≠ c) (h : w.cell? ⟨b, o, none⟩ = some u) (x : Value) : (w.setCell ⟨c, i, none⟩ x).cell? ⟨b, o, none⟩ = some u :=
  (World.cell?_of_block (a := ⟨b, o, none⟩) (Below.heap_setCell w ⟨c, i, none⟩ x b hne)).trans h
end Gal
namespace Go.Proofs.YtikcdjibflleeaaDoor.lawMatStacks
open Go.ChangeShapes Go.WideShapes Go.ChangeAt Go.RowKit Gal
set_option maxRecDepth 100000
set_option maxHeartbeats 1000000
theorem walk (ms : List Mat) (v : Value) (w : World) (h : LMatsAt w v ms) (hh : Handle w) (bk : ms.length ≤ 1048576) :
    Calls Tryd.prog 3 #[v] w fun e w' => e = .returned (.bool true) ∧ Below w.heap.size w w' := by
  obtain ⟨a, n, k, b, o, rfl, r0⟩ := h
  have r := r0.mats
  clear r0
  have HLEN := Lib.hid r.len
  have RW : Hid (MatsAt w a n k b o ms) := Lib.hid r
  have hn : n ≤ 1048576 := by rw [← r.len]; exact bk
  obtain ⟨i0, hi, his0, his1, his2⟩ := info_parts info_int
  clear bk
  obtain ⟨M, hM⟩ : ∃ M, orNone (stackFault ms) (matStack ms) = M := ⟨_, rfl⟩
  have HM := Lib.hid hM
  clear hM
  go_enter Tryd.func3, Tryd.ntmps3
  go_wp2_with fail
  refine (matStack_all a n k b o ms w r hn).mono ?_
  rw [HM.out]
  rintro e w1 ⟨v1, rfl, ⟨a1, n1, k1, b1, o1, rfl, hn1, x1⟩, hb1⟩
  replace r := r.keep hb1
  replace hh := hh.keep hb1
  have lx1 := x1.lt
  go_upto_block 0 with fail
  obtain ⟨w2, hw2, B3, r, hh, x1, hb2⟩ : ∃ w2, w1.alloc (.cells #[.int .i64 M.rows, .int .i64 M.cols, .slice a1 n1 k1] 25) = w2 ∧ Box w2 w1.heap.size [.int .i64 M.rows, .int .i64 M.cols, .slice a1 n1 k1] 25 ∧ MatsAt w2 a n k b o ms ∧ Handle w2 ∧ IntsAt w2 a1 n1 k1 b1 o1 M.cells ∧ Below w.heap.size w w2 := ⟨_, rfl, Box.new _ _ _, r.keep (by repeat (first | fail | (with_reducible exact Below.refl _ _) | (with_reducible refine Below.al ?_ _) | (with_reducible refine Below.drN ?_ _) | (with_reducible refine Below.drew ?_) | (with_reducible refine Below.st ?_ ?_ _; rotate_left 1; (first | (dsimp only; omega) | omega | (simp; omega) | simp)) | exact Below.refl _ _)), hh.alloc _, x1.alloc _, (by repeat (first | fail | (with_reducible exact Below.refl _ _) | (with_reducible refine Below.al ?_ _) | (with_reducible refine Below.drN ?_ _) | (with_reducible refine Below.drew ?_) | (with_reducible refine Below.st ?_ ?_ _; rotate_left 1; (first | (dsimp only; omega) | omega | (simp; omega) | simp)) | (with_reducible refine Below.go ?_ hb1) | exact Below.refl _ _))⟩
  rw [hw2]
  clear hw2 hb1
  go_cut [5] (fun e wx => e = .int .i64 (firstFault ms) ∧ Below w2.heap.size w2 wx)
  case first =>
    go_wp2_with fail
    go_loopw [5, 6] (fun e i wr => ∃ (t : Nat) (x : Int), t ≤ n ∧ i = .int .i64 t ∧ e = .int .i64 x ∧ Hid ((x = 0 ∧ ∀ j, j < t → (mx ms j).fault = 0) ∨ (x ≠ 0 ∧ x = firstFault ms)) ∧ Below w2.heap.size w2 wr) (fun _ i _ => n - (intOf i).toNat)
    case atStart => exact ⟨0, 0, Nat.zero_le _, rfl, rfl, Lib.hid (Or.inl ⟨rfl, fun j hj => absurd hj (Nat.not_lt_zero _)⟩), Below.refl _ _⟩
    case round =>
      obtain ⟨t, x, ht, rfl, rfl, HX, hbr⟩ := hrel
      by_cases hlt : t < n
      · have hltI : (t : Int) < (n : Int) := by omega
        by_cases hx : x = 0
        · subst hx
          have HZ : Hid (∀ j, j < t → (mx ms j).fault = 0) := Lib.hid (by rcases HX.out with h | h; exact h.2; exact absurd rfl h.1)
          obtain rfl := r.ptr (by omega)
          have hbs := r.lt (by omega)
          obtain ⟨a3, n3, k3, b3, o3, m0, m1, m2, _, x3⟩ := r.cell t hlt
          have c0 := cell_keep hbr m0
          have c1 := cell_keep hbr m1
          have c2 := cell_keep hbr m2
          go_wp2_with fail
          refine (refMatFault_any (mx ms t) _ _ (MatAt.mk (x3.keep hbr))).mono ?_
          rintro e w3 ⟨rfl, hb3⟩
          have hbe : Below w2.heap.size w2 w3 := (by repeat (first | fail | (with_reducible exact Below.refl _ _) | (with_reducible exact hbr) | (with_reducible refine Below.al ?_ _) | (with_reducible refine Below.drN ?_ _) | (with_reducible refine Below.drew ?_) | (with_reducible refine Below.st ?_ ?_ _; rotate_left 1; (first | (dsimp only; omega) | omega | (simp; omega) | simp)) | (with_reducible refine Below.go ?_ hb3) | exact Below.refl _ _ | exact hbr))
          go_wp2_with fail
          go_roundw
          case rel => exact ⟨t + 1, _, by omega, by go_num, rfl, Lib.hid (by
            by_cases hf : (mx ms t).fault = 0
            · exact Or.inl ⟨hf, fun j hj => by
                rcases Nat.lt_or_ge j t with g | g
                · exact HZ.out j g
                · obtain rfl : j = t := by omega
                  exact hf⟩
            · exact Or.inr ⟨hf, (firstFault_at (by rw [HLEN.out]; exact hlt) HZ.out hf).symm⟩), hbe⟩
          case measure => simp [intOf]; omega
        · have g1 : (x == 0) = false := by simp [hx]
          have e1 : x = firstFault ms := by rcases HX.out with h | h; exact absurd h.1 hx; exact h.2
          have HE1 := Lib.hid e1
          clear hx e1 HX
          go_wp2_with fail
          go_meet
          exact ⟨by rw [HE1.out], hbr⟩
      · have hltI : ¬ (t : Int) < (n : Int) := by omega
        have e1 : x = firstFault ms := by
          rcases HX.out with h | h
          · rw [h.1, firstFault_none (fun j hj => h.2 j (by have := HLEN.out; omega))]
          · exact h.2
        have HE1 := Lib.hid e1
        clear e1 HX
        go_wp2_with fail
        go_meet
        exact ⟨by rw [HE1.out], hbr⟩
  case rest =>
    obtain ⟨rfl, hbc⟩ := hcut
    obtain ⟨wA, rfl⟩ : ∃ wA, wA = wc := ⟨_, rfl⟩
    have l1 : 0 < n1 → b1 < w1.heap.size := lx1
    have hz1 : w1.heap.size < wA.heap.size := by have := hbc.size; have := B3.lt; omega
    replace r := r.keep hbc
    replace hh := hh.keep hbc
    replace x1 := x1.keep hbc
    replace B3 := B3.keep hbc
    have hbA : Below w.heap.size w wA := (by repeat (first | fail | (with_reducible exact Below.refl _ _) | (with_reducible exact hb2) | (with_reducible refine Below.al ?_ _) | (with_reducible refine Below.drN ?_ _) | (with_reducible refine Below.drew ?_) | (with_reducible refine Below.st ?_ ?_ _; rotate_left 1; (first | (dsimp only; omega) | omega | (simp; omega) | simp)) | (with_reducible refine Below.go ?_ hbc) | exact Below.refl _ _ | exact hb2))
    clear hbc hb2
    by_cases hff : firstFault ms = 0
    · by_cases h0 : n = 0
      · have HS : Hid (stackFault ms = 2) := Lib.hid (stack_nil hff (by rw [HLEN.out]; exact h0))
        have HNE : Hid ((2 : Int) ≠ 0) := Lib.hid (by decide)
        have g1 : (firstFault ms == 0) = true := by simp [hff]
        have g2 : ((n : Int) == 0) = true := by simp [h0]
        have g3 : ¬ (0 : Int) < (n : Int) := by omega
        clear hff h0
        have HMN : Hid (M = Mat.none) := Lib.hid (by rw [← HM.out]; unfold orNone; rw [if_neg (by rw [HS.out]; exact HNE.out)])
        go_wp2_with fail
        obtain ⟨wB, hwB, B7, B3, r, hh, x1, hbB, hbB'⟩ : ∃ wB, wA.alloc (.cells #[.int .i64 0, .int .i64 0, .slice none 0 0] 25) = wB ∧ Box wB wA.heap.size [.int .i64 0, .int .i64 0, .slice none 0 0] 25 ∧ Box wB w1.heap.size [.int .i64 M.rows, .int .i64 M.cols, .slice a1 n1 k1] 25 ∧ MatsAt wB a n k b o ms ∧ Handle wB ∧ IntsAt wB a1 n1 k1 b1 o1 M.cells ∧ Below w.heap.size w wB ∧ Below wA.heap.size wA wB := ⟨_, rfl, Box.new _ _ _, (by repeat (first | fail | (with_reducible exact B3) | (with_reducible refine Box.alloc ?_ _) | (with_reducible refine Box.drewN ?_ _) | (with_reducible refine Box.drew ?_) | (with_reducible refine Box.far ?_ ?_ _; rotate_left 1; (first | (dsimp only; omega) | omega | (simp; omega) | simp)) | exact B3)), r.keep (by repeat (first | fail | (with_reducible exact Below.refl _ _) | (with_reducible refine Below.al ?_ _) | (with_reducible refine Below.drN ?_ _) | (with_reducible refine Below.drew ?_) | (with_reducible refine Below.st ?_ ?_ _; rotate_left 1; (first | (dsimp only; omega) | omega | (simp; omega) | simp)) | exact Below.refl _ _)), hh.alloc _, (by repeat (first | fail | (with_reducible exact x1) | (with_reducible refine IntsAt.alloc ?_ _) | (with_reducible refine IntsAt.drewN ?_ _) | (with_reducible refine IntsAt.drew ?_) | (with_reducible refine IntsAt.set ?_ ?_ _; rotate_left 1; (intro h0; first | (dsimp only; omega) | omega | (simp; omega) | simp)) | exact x1)), (by repeat (first | fail | (with_reducible exact Below.refl _ _) | (with_reducible exact hbA) | (with_reducible refine Below.al ?_ _) | (with_reducible refine Below.drN ?_ _) | (with_reducible refine Below.drew ?_) | (with_reducible refine Below.st ?_ ?_ _; rotate_left 1; (first | (dsimp only; omega) | omega | (simp; omega) | simp)) | exact Below.refl _ _ | exact hbA)), (by repeat (first | fail | (with_reducible exact Below.refl _ _) | (with_reducible refine Below.al ?_ _) | (with_reducible refine Below.drN ?_ _) | (with_reducible refine Below.drew ?_) | (with_reducible refine Below.st ?_ ?_ _; rotate_left 1; (first | (dsimp only; omega) | omega | (simp; omega) | simp)) | exact Below.refl _ _))⟩
        rw [hwB]
        clear hwB
        have hz7 : wA.heap.size < wB.heap.size := B7.lt
        have hzw := hbA.size
        have B3 := B3
        have B3c := B3.cell
        have B3f := B3.thawed
        have B3z := B3.lt
        have B3k := lt_add B3z
        have B7 := B7
        have B7c := B7.cell
        have B7f := B7.thawed
        have B7z := B7.lt
        have B7k := lt_add B7z
        go_loopw [5, 8] (fun e i wr => e = .int .i64 (2) ∧ i = .int .i64 0 ∧ wB = wr) (fun _ _ _ => 0)
        case atStart => exact ⟨rfl, rfl, rfl⟩
        case round =>
          obtain ⟨rfl, rfl, rfl⟩ := hrel
          go_wp2_with fail
          go_loopw [9] (fun i wr => i = .int .i64 0 ∧ wB = wr) (fun _ _ => 0)
          case atStart => exact ⟨rfl, rfl⟩
          case round =>
            obtain ⟨rfl, rfl⟩ := hrel
            go_wp2_with fail
            have hhl := hh.lt
            obtain ⟨wC, hwC, C7, C3, hhC, xC, hbC⟩ : ∃ wC, (((wB.setCell ⟨wA.heap.size, 0, none⟩ (.int .i64 0)).setCell ⟨wA.heap.size, 1, none⟩ (.int .i64 0)).setCell ⟨wA.heap.size, 2, none⟩ (.slice none 0 0)) = wC ∧ Box wC wA.heap.size [.int .i64 0, .int .i64 0, .slice none 0 0] 25 ∧ Box wC w1.heap.size [.int .i64 M.rows, .int .i64 M.cols, .slice a1 n1 k1] 25 ∧ Handle wC ∧ IntsAt wC a1 n1 k1 b1 o1 M.cells ∧ Below w.heap.size w wC :=
              ⟨_, rfl, ((B7.set 0 _).set 1 _).set 2 _, ((B3.far (by simp; omega) _).far (by simp; omega) _).far (by simp; omega) _, hh.farS (((Far.refl (fun b => b = wA.heap.size) wB).st (fun _ => rfl) (.int .i64 0)).st (fun _ => rfl) (.int .i64 0) |>.st (fun _ => rfl) (.slice none 0 0)) (by intro e; omega), ((x1.set (fun h => by have := l1 h; simp; omega) _).set (fun h => by have := l1 h; simp; omega) _).set (fun h => by have := l1 h; simp; omega) _, (by repeat (first | fail | (with_reducible exact Below.refl _ _) | (with_reducible exact hbB) | (with_reducible refine Below.al ?_ _) | (with_reducible refine Below.drN ?_ _) | (with_reducible refine Below.drew ?_) | (with_reducible refine Below.st ?_ ?_ _; rotate_left 1; (first | (dsimp only; omega) | omega | (simp; omega) | simp)) | exact Below.refl _ _ | exact hbB))⟩
            rw [hwC]
            clear hwC
            refine (error_eq _ _ _ hhC HS.out).mono ?_
            rintro e wy ⟨rfl, hby⟩
            have C3 := C3.keep hby
            have C3c := C3.cell
            have C3f := C3.thawed
            have C3z := C3.lt
            have C3k := lt_add C3z
            have C7 := C7.keep hby
            have C7c := C7.cell
            have C7f := C7.thawed
            have C7z := C7.lt
            have C7k := lt_add C7z
            replace xC := xC.keep hby
            go_wp2_with fail
            refine (matrices_same M _ _ _ (MatAt.mk (show IntsAt _ a1 n1 k1 b1 o1 M.cells from (by repeat (first | fail | (with_reducible exact xC) | (with_reducible refine IntsAt.alloc ?_ _) | (with_reducible refine IntsAt.drewN ?_ _) | (with_reducible refine IntsAt.drew ?_) | (with_reducible refine IntsAt.set ?_ ?_ _; rotate_left 1; (intro h0; first | (dsimp only; omega) | omega | (simp; omega) | simp)) | exact xC)))) (by rw [HMN.out]; exact MatAt.nought _)).mono ?_
            rintro e wz ⟨rfl, hbz⟩
            have hbe : Below w.heap.size w wz := (by repeat (first | fail | (with_reducible exact Below.refl _ _) | (with_reducible exact hbC) | (with_reducible refine Below.al ?_ _) | (with_reducible refine Below.drN ?_ _) | (with_reducible refine Below.drew ?_) | (with_reducible refine Below.st ?_ ?_ _; rotate_left 1; (first | (dsimp only; omega) | omega | (simp; omega) | simp)) | (with_reducible refine Below.go ?_ hbz) | (with_reducible refine Below.go ?_ hby) | exact Below.refl _ _ | exact hbC))
            go_wp2
            go_ret
            exact ⟨rfl, hbe⟩
      · have g1 : (firstFault ms == 0) = true := by simp [hff]
        have g2 : ((n : Int) == 0) = false := by simp; omega
        have HFF := Lib.hid hff
        have HN0 : Hid (ms.length ≠ 0) := Lib.hid (by rw [HLEN.out]; exact h0)
        obtain ⟨x3, hx3⟩ : ∃ x3 : Int, x3 = if sameCols ms then 0 else 2 := ⟨_, rfl⟩
        have HX3 := Lib.hid hx3
        clear hx3
        go_upto_block 2 with fail
        rw [HFF.out]
        clear g1 hff
        obtain ⟨wB, hwB, B7, B3, r, hh, x1, hbB, hbB'⟩ : ∃ wB, wA.alloc (.cells #[.int .i64 0, .int .i64 0, .slice none 0 0] 25) = wB ∧ Box wB wA.heap.size [.int .i64 0, .int .i64 0, .slice none 0 0] 25 ∧ Box wB w1.heap.size [.int .i64 M.rows, .int .i64 M.cols, .slice a1 n1 k1] 25 ∧ MatsAt wB a n k b o ms ∧ Handle wB ∧ IntsAt wB a1 n1 k1 b1 o1 M.cells ∧ Below w.heap.size w wB ∧ Below wA.heap.size wA wB := ⟨_, rfl, Box.new _ _ _, (by repeat (first | fail | (with_reducible exact B3) | (with_reducible refine Box.alloc ?_ _) | (with_reducible refine Box.drewN ?_ _) | (with_reducible refine Box.drew ?_) | (with_reducible refine Box.far ?_ ?_ _; rotate_left 1; (first | (dsimp only; omega) | omega | (simp; omega) | simp)) | exact B3)), r.keep (by repeat (first | fail | (with_reducible exact Below.refl _ _) | (with_reducible refine Below.al ?_ _) | (with_reducible refine Below.drN ?_ _) | (with_reducible refine Below.drew ?_) | (with_reducible refine Below.st ?_ ?_ _; rotate_left 1; (first | (dsimp only; omega) | omega | (simp; omega) | simp)) | exact Below.refl _ _)), hh.alloc _, (by repeat (first | fail | (with_reducible exact x1) | (with_reducible refine IntsAt.alloc ?_ _) | (with_reducible refine IntsAt.drewN ?_ _) | (with_reducible refine IntsAt.drew ?_) | (with_reducible refine IntsAt.set ?_ ?_ _; rotate_left 1; (intro h0; first | (dsimp only; omega) | omega | (simp; omega) | simp)) | exact x1)), (by repeat (first | fail | (with_reducible exact Below.refl _ _) | (with_reducible exact hbA) | (with_reducible refine Below.al ?_ _) | (with_reducible refine Below.drN ?_ _) | (with_reducible refine Below.drew ?_) | (with_reducible refine Below.st ?_ ?_ _; rotate_left 1; (first | (dsimp only; omega) | omega | (simp; omega) | simp)) | exact Below.refl _ _ | exact hbA)), (by repeat (first | fail | (with_reducible exact Below.refl _ _) | (with_reducible refine Below.al ?_ _) | (with_reducible refine Below.drN ?_ _) | (with_reducible refine Below.drew ?_) | (with_reducible refine Below.st ?_ ?_ _; rotate_left 1; (first | (dsimp only; omega) | omega | (simp; omega) | simp)) | exact Below.refl _ _))⟩
        rw [hwB]
        clear hwB
        have hz7 : wA.heap.size < wB.heap.size := B7.lt
        have hzw := hbA.size
        have B3 := B3
        have B3c := B3.cell
        have B3f := B3.thawed
        have B3z := B3.lt
        have B3k := lt_add B3z
        have B7 := B7
        have B7c := B7.cell
        have B7f := B7.thawed
        have B7z := B7.lt
        have B7k := lt_add B7z
        go_cut [5] (fun e wx => e = .int .i64 x3 ∧ Below wB.heap.size wB wx)
        case first =>
          have hltZ : (0 : Int) < (n : Int) := by omega
          go_wp2_with fail
          go_loopw [5, 8] (fun e i wr => ∃ (t : Nat) (x : Int), t ≤ n ∧ i = .int .i64 t ∧ e = .int .i64 x ∧ Hid ((x = 0 ∧ ∀ j, j < t → (mx ms j).cols = (mx ms 0).cols) ∨ (x = 2 ∧ ¬ sameCols ms)) ∧ Below wB.heap.size wB wr) (fun _ i _ => n - (intOf i).toNat)
          case atStart => exact ⟨0, 0, Nat.zero_le _, rfl, rfl, Lib.hid (Or.inl ⟨rfl, fun j hj => absurd hj (Nat.not_lt_zero _)⟩), Below.refl _ _⟩
          case round =>
            obtain ⟨t, x, ht, rfl, rfl, HX, hbr⟩ := hrel
            by_cases hlt : t < n
            · have hltI : (t : Int) < (n : Int) := by omega
              rcases HX.out with ⟨rfl, hj⟩ | ⟨rfl, hj⟩
              · have HZ := Lib.hid hj
                clear hj HX
                obtain rfl := r.ptr (by omega)
                obtain ⟨a3, n3, k3, b3, o3, m0, m1, m2, _, x3c⟩ := r.cell t hlt
                obtain ⟨a4, n4, k4, b4, o4, l0, l1, l2, _, x4c⟩ := r.cell 0 (by omega)
                have c1 := cell_keep hbr m1
                have c2 := cell_keep hbr l1
                simp only [Nat.zero_mul, Nat.add_zero] at c2
                clear m0 m1 m2 x3c l0 l1 l2 x4c
                by_cases hc : (mx ms t).cols = (mx ms 0).cols
                · have g4 : ((mx ms t).cols != (mx ms 0).cols) = false := by simp [hc]
                  have HC := Lib.hid hc
                  clear hc
                  go_wp2_with fail
                  go_quiet (fail)
                  go_wp2
                  go_roundw
                  case rel => exact ⟨t + 1, 0, by omega, by go_num, rfl, Lib.hid (Or.inl ⟨rfl, fun j hj => by
                    rcases Nat.lt_or_ge j t with g | g
                    · exact HZ.out j g
                    · obtain rfl : j = t := by omega
                      exact HC.out⟩), (by repeat (first | fail | (with_reducible exact Below.refl _ _) | (with_reducible exact hbr) | (with_reducible refine Below.al ?_ _) | (with_reducible refine Below.drN ?_ _) | (with_reducible refine Below.drew ?_) | (with_reducible refine Below.st ?_ ?_ _; rotate_left 1; (first | (dsimp only; omega) | omega | (simp; omega) | simp)) | exact Below.refl _ _ | exact hbr))⟩
                  case measure => simp [intOf]; omega
                · have g4 : ((mx ms t).cols != (mx ms 0).cols) = true := by simp [hc]
                  have HC := Lib.hid hc
                  clear hc
                  go_wp2_with fail
                  go_quiet (fail)
                  go_wp2
                  go_roundw
                  case rel => exact ⟨t + 1, 2, by omega, by go_num, rfl, Lib.hid (Or.inr ⟨rfl, fun hs => HC.out (hs t (by rw [HLEN.out]; exact hlt))⟩), (by repeat (first | fail | (with_reducible exact Below.refl _ _) | (with_reducible exact hbr) | (with_reducible refine Below.al ?_ _) | (with_reducible refine Below.drN ?_ _) | (with_reducible refine Below.drew ?_) | (with_reducible refine Below.st ?_ ?_ _; rotate_left 1; (first | (dsimp only; omega) | omega | (simp; omega) | simp)) | exact Below.refl _ _ | exact hbr))⟩
                  case measure => simp [intOf]; omega
              · have HJ := Lib.hid hj
                clear hj HX
                go_wp2_with fail
                go_meet
                exact ⟨by rw [HX3.out, if_neg HJ.out], hbr⟩
            · have hltI : ¬ (t : Int) < (n : Int) := by omega
              have e1 : x = x3 := by
                rw [HX3.out]
                rcases HX.out with h | h
                · rw [if_pos (sameCols_of HLEN.out fun j hj => h.2 j (by omega))]; exact h.1
                · rw [if_neg h.2]; exact h.1
              have HE1 := Lib.hid e1
              clear e1 HX
              go_wp2_with fail
              go_meet
              exact ⟨by rw [HE1.out], hbr⟩
        case rest =>
          obtain ⟨rfl, hbc⟩ := hcut
          obtain ⟨wD, rfl⟩ : ∃ wD, wD = wc := ⟨_, rfl⟩
          have hbD : Below w.heap.size w wD := (by repeat (first | fail | (with_reducible exact Below.refl _ _) | (with_reducible exact hbB) | (with_reducible refine Below.al ?_ _) | (with_reducible refine Below.drN ?_ _) | (with_reducible refine Below.drew ?_) | (with_reducible refine Below.st ?_ ?_ _; rotate_left 1; (first | (dsimp only; omega) | omega | (simp; omega) | simp)) | (with_reducible refine Below.go ?_ hbc) | exact Below.refl _ _ | exact hbB))
          have hzD : wA.heap.size < wD.heap.size := by have := hbc.size; omega
          replace hh := hh.keep hbc
          replace x1 := x1.keep hbc
          have hkwD : Below wB.heap.size wB wD := (by repeat (first | fail | (with_reducible exact Below.refl _ _) | (with_reducible refine Below.al ?_ _) | (with_reducible refine Below.drN ?_ _) | (with_reducible refine Below.drew ?_) | (with_reducible refine Below.st ?_ ?_ _; rotate_left 1; (first | (dsimp only; omega) | omega | (simp; omega) | simp)) | (with_reducible refine Below.go ?_ hbc) | exact Below.refl _ _))
          replace B3 := B3.keep hkwD
          replace B3c := B3.cell
          replace B3f := B3.thawed
          replace B3z := B3.lt
          replace B3k := lt_add B3z
          replace B7 := B7.keep hkwD
          replace B7c := B7.cell
          replace B7f := B7.thawed
          replace B7z := B7.lt
          replace B7k := lt_add B7z
          clear hbc hbB r
          by_cases hs : sameCols ms
          · obtain rfl : x3 = 0 := by rw [HX3.out, if_pos hs]
            have HSC := Lib.hid hs
            have HTB : Hid (∀ k, k ≤ ms.length → 0 ≤ rowsTo ms k ∧ rowsTo ms k ≤ 24 * k ∧ (cellsTo ms k).length ≤ 288 * k) := Lib.hid (to_bd HFF.out)
            clear hs HX3
            go_wp2_with fail
            go_loopw [9] (fun i wr => ∃ (t : Nat) (v : Value), t ≤ n ∧ i = .int .i64 t ∧ Box wr wA.heap.size [.int .i64 (rowsTo ms t), .int .i64 (colsTo ms t), v] 25 ∧ wr.ownsRow wD.heap.size 3 1 v (cellsTo ms t).length ((cellsTo ms t).map (Value.int .i64)) ∧ Far (fun b => b = wA.heap.size) wD wr) (fun i _ => n - (intOf i).toNat)
            case atStart => exact ⟨0, _, Nat.zero_le _, rfl, B7, World.ownsRow_nil _ _ _ _, Far.refl _ _⟩
            case round =>
              obtain ⟨t, v, ht, rfl, BM, hown, hfr⟩ := hrel
              have hbr : Below w.heap.size w wr := Far.toBelow hbD hfr (by omega) (fun k hk => by subst hk; omega)
              by_cases hlt : t < n
              · have hltI : (t : Int) < (n : Int) := by omega
                have hz : wA.heap.size < wr.heap.size := BM.lt
                obtain rfl := RW.out.ptr (by omega)
                have hbw := RW.out.lt (by omega)
                obtain ⟨a3, n3, k3, b3, o3, p0, p1, p2, _, xw⟩ := RW.out.cell t hlt
                have m0 := cell_keep hbr p0
                have m1 := cell_keep hbr p1
                have m2 := cell_keep hbr p2
                have x3c := xw.keep hbr
                have l3 : 0 < n3 → b3 < w.heap.size := xw.lt
                clear p0 p1 p2 xw
                have hbA1 : b ≠ wA.heap.size := by omega
                have BM := BM
                have BMc := BM.cell
                have BMf := BM.thawed
                have BMz := BM.lt
                have BMk := lt_add BMz
                have hvM : v.ownBlock ≠ some wA.heap.size := own_ne hown BM (by decide)
                have hn3 : (mx ms t).cells.length = n3 := x3c.len
                have HN3 := Lib.hid hn3
                have hnb : 0 < n3 → b3 ≠ wA.heap.size := fun h => by have := l3 h; omega
                obtain ⟨q1, q2, q3⟩ := HTB.out t (by rw [HLEN.out]; exact ht)
                obtain ⟨q4, q5, q6⟩ := HTB.out (t + 1) (by rw [HLEN.out]; exact hlt)
                have hrb := fault_bd (firstFault_all HFF.out (show t < ms.length by rw [HLEN.out]; exact hlt))
                rw [cellsTo_succ, List.length_append] at q6
                have hcols : (mx ms t).cols = colsTo ms (t + 1) := by unfold colsTo; rw [if_neg (by omega)]; exact HSC.out t (by rw [HLEN.out]; exact hlt)
                rw [hcols] at m1
                have HCO := Lib.hid hcols
                have HW1 : Hid (wrap64 (rowsTo ms t + (mx ms t).rows) = rowsTo ms (t + 1)) := Lib.hid (by rw [rowsTo_succ]; unfold wrap64; omega)
                clear hcols hrb
                go_upto_region 19 with (fail)
                obtain ⟨wq, hwq, BQ, ownq, hfq, m0, m2, x3c⟩ : ∃ wq, (wr.setCell ⟨wA.heap.size, 1, none⟩ (.int .i64 (colsTo ms (t + 1)))) = wq ∧ Box wq wA.heap.size [.int .i64 (rowsTo ms t), .int .i64 (colsTo ms (t + 1)), v] 25 ∧ wq.ownsRow wD.heap.size 3 1 v (cellsTo ms t).length ((cellsTo ms t).map (Value.int .i64)) ∧ Far (fun b => b = wA.heap.size) wD wq ∧ wq.cell? ⟨b, o + t * 3, none⟩ = some (.int .i64 (mx ms t).rows) ∧ wq.cell? ⟨b, o + t * 3 + 2, none⟩ = some (.slice a3 n3 k3) ∧ IntsAt wq a3 n3 k3 b3 o3 (mx ms t).cells :=
                  ⟨_, rfl, BM.set 1 _, own_set hown hvM _, hfr.st (fun _ => rfl) _, cell_off hbA1 m0 _, cell_off hbA1 m2 _, x3c.set hnb _⟩
                rw [hwq]
                clear hwq m1 BM BMc BMf BMz BMk hown hfr hbr
                have BQ := BQ
                have BQc := BQ.cell
                have BQf := BQ.thawed
                have BQz := BQ.lt
                have BQk := lt_add BQz
                go_region
                obtain ⟨wp, hwp, BP, ownp, hfp, m2, x3c⟩ : ∃ wp, (wq.setCell ⟨wA.heap.size, 0, none⟩ (.int .i64 (wrap64 (rowsTo ms t + (mx ms t).rows)))).drew = wp ∧ Box wp wA.heap.size [.int .i64 (rowsTo ms (t + 1)), .int .i64 (colsTo ms (t + 1)), v] 25 ∧ wp.ownsRow wD.heap.size 3 1 v (cellsTo ms t).length ((cellsTo ms t).map (Value.int .i64)) ∧ Far (fun b => b = wA.heap.size) wD wp ∧ wp.cell? ⟨b, o + t * 3 + 2, none⟩ = some (.slice a3 n3 k3) ∧ IntsAt wp a3 n3 k3 b3 o3 (mx ms t).cells :=
                  ⟨_, rfl, by rw [HW1.out]; exact (BQ.set 0 _).drew, own_set ownq hvM _, (hfq.st (fun _ => rfl) _).drew, cell_off hbA1 m2 _, (x3c.set hnb _).drewN 1⟩
                rw [hwp]
                clear hwp m0 BQ BQc BQf BQz BQk ownq hfq
                have BP := BP
                have BPc := BP.cell
                have BPf := BP.thawed
                have BPz := BP.lt
                have BPk := lt_add BPz
                have hbyt : ((cellsTo ms t).length + n3) * 8 ≤ 140737488355328 := by omega
                have hzP : wD.heap.size ≤ wp.heap.size := hfp.size
                have ownd : wp.drew.ownsRow wD.heap.size 3 1 v (cellsTo ms t).length ((cellsTo ms t).map (Value.int .i64)) := ownp
                have x3d : IntsAt wp.drew a3 n3 k3 b3 o3 (mx ms t).cells := x3c.drewN 1
                have hbz : wD.heap.size ≤ wp.drew.heap.size := hzP
                have hrow : ∀ k, v.ownBlock = some k → wD.heap.size ≤ k := fun k hk => (ownp.lt k hk).1
                have HROW := Lib.hid hrow
                clear hrow
                go_wp2_with fail
                go_region_law ((refine at_oper ⟨some 92, _, _, _, _, _⟩  ?_; go_must (refine step_append_ints rfl (.tmp 86) (.tmp 91) 23 (by rfl) wD.heap.size 3 i0 Tryd.underlying23 hi his0 his1 his2 v (cellsTo ms t).length (cellsTo ms t) (by rfl) ownd a3 n3 k3 b3 o3 (mx ms t).cells (by rfl) x3d hbyt hbz ?_)); intro v' wl hownl hgrow; obtain ⟨av, cv, hv'⟩ := own_slice hownl; subst hv'; have BL := BP.drew.grown hgrow (Ne.symm hvM); have c21 := BL.cell 2; have f21 := BL.thawed 2)
                all_goals (
                  go_wp2
                  go_roundw
                  case rel => exact ⟨t + 1, _, by omega, by go_num, BL.set 2 _, by
                    rw [cellsTo_succ, List.length_append, HN3.out]; exact own_set hownl (own_ne hownl BL (by decide)) _, (hfp.drew.grown hgrow (fun k hk hlt => by have := HROW.out k hk; omega)).st (fun _ => rfl) _⟩
                  case measure => simp [intOf]; omega)
              · obtain rfl : t = n := by omega
                clear ht hlt
                have l1' : 0 < n1 → b1 < w1.heap.size := lx1
                have hhl := hh.lt
                replace hh := hh.farS hfr (by intro e; omega)
                replace x1 := x1.farS hfr (fun h e => by have := l1' h; omega)
                replace B3 := B3.farS hfr (by intro e; omega)
                have B3 := B3
                have B3c := B3.cell
                have B3f := B3.thawed
                have B3z := B3.lt
                have B3k := lt_add B3z
                have BM := BM
                have BMc := BM.cell
                have BMf := BM.thawed
                have BMz := BM.lt
                have BMk := lt_add BMz
                obtain ⟨av, cv, bv, rfl, hbv, xv⟩ := IntsAt.of_own hown
                by_cases hr : 24 < rowsTo ms t
                · have HS : Hid (stackFault ms = 3) := Lib.hid (stack_rows HFF.out HN0.out HSC.out (by rw [HLEN.out]; exact hr))
                  have HNE : Hid ((3 : Int) ≠ 0) := Lib.hid (by decide)
                  have HMN : Hid (M = Mat.none) := Lib.hid (by rw [← HM.out]; unfold orNone; rw [if_neg (by rw [HS.out]; exact HNE.out)])
                  have B7 := BM
                  have B7 := B7
                  have B7c := B7.cell
                  have B7f := B7.thawed
                  have B7z := B7.lt
                  have B7k := lt_add B7z
                  go_wp2_with fail
                  have hhl := hh.lt
                  obtain ⟨wC, hwC, C7, C3, hhC, xC, hbC⟩ : ∃ wC, (((wr.setCell ⟨wA.heap.size, 0, none⟩ (.int .i64 0)).setCell ⟨wA.heap.size, 1, none⟩ (.int .i64 0)).setCell ⟨wA.heap.size, 2, none⟩ (.slice none 0 0)) = wC ∧ Box wC wA.heap.size [.int .i64 0, .int .i64 0, .slice none 0 0] 25 ∧ Box wC w1.heap.size [.int .i64 M.rows, .int .i64 M.cols, .slice a1 n1 k1] 25 ∧ Handle wC ∧ IntsAt wC a1 n1 k1 b1 o1 M.cells ∧ Below w.heap.size w wC :=
                    ⟨_, rfl, ((B7.set 0 _).set 1 _).set 2 _, ((B3.far (by simp; omega) _).far (by simp; omega) _).far (by simp; omega) _, hh.farS (((Far.refl (fun b => b = wA.heap.size) wr).st (fun _ => rfl) (.int .i64 0)).st (fun _ => rfl) (.int .i64 0) |>.st (fun _ => rfl) (.slice none 0 0)) (by intro e; omega), ((x1.set (fun h => by have := l1 h; simp; omega) _).set (fun h => by have := l1 h; simp; omega) _).set (fun h => by have := l1 h; simp; omega) _, (by repeat (first | fail | (with_reducible exact Below.refl _ _) | (with_reducible exact hbr) | (with_reducible refine Below.al ?_ _) | (with_reducible refine Below.drN ?_ _) | (with_reducible refine Below.drew ?_) | (with_reducible refine Below.st ?_ ?_ _; rotate_left 1; (first | (dsimp only; omega) | omega | (simp; omega) | simp)) | exact Below.refl _ _ | exact hbr))⟩
                  rw [hwC]
                  clear hwC
                  refine (error_eq _ _ _ hhC HS.out).mono ?_
                  rintro e wy ⟨rfl, hby⟩
                  have C3 := C3.keep hby
                  have C3c := C3.cell
                  have C3f := C3.thawed
                  have C3z := C3.lt
                  have C3k := lt_add C3z
                  have C7 := C7.keep hby
                  have C7c := C7.cell
                  have C7f := C7.thawed
                  have C7z := C7.lt
                  have C7k := lt_add C7z
                  replace xC := xC.keep hby
                  go_wp2_with fail
                  refine (matrices_same M _ _ _ (MatAt.mk (show IntsAt _ a1 n1 k1 b1 o1 M.cells from (by repeat (first | fail | (with_reducible exact xC) | (with_reducible refine IntsAt.alloc ?_ _) | (with_reducible refine IntsAt.drewN ?_ _) | (with_reducible refine IntsAt.drew ?_) | (with_reducible refine IntsAt.set ?_ ?_ _; rotate_left 1; (intro h0; first | (dsimp only; omega) | omega | (simp; omega) | simp)) | exact xC)))) (by rw [HMN.out]; exact MatAt.nought _)).mono ?_
                  rintro e wz ⟨rfl, hbz⟩
                  have hbe : Below w.heap.size w wz := (by repeat (first | fail | (with_reducible exact Below.refl _ _) | (with_reducible exact hbC) | (with_reducible refine Below.al ?_ _) | (with_reducible refine Below.drN ?_ _) | (with_reducible refine Below.drew ?_) | (with_reducible refine Below.st ?_ ?_ _; rotate_left 1; (first | (dsimp only; omega) | omega | (simp; omega) | simp)) | (with_reducible refine Below.go ?_ hbz) | (with_reducible refine Below.go ?_ hby) | exact Below.refl _ _ | exact hbC))
                  go_wp2
                  go_ret
                  exact ⟨rfl, hbe⟩
                · have HS : Hid (stackFault ms = 0) := Lib.hid (stack_fine HFF.out HN0.out HSC.out (by rw [HLEN.out]; exact hr))
                  have HMS : Hid (M = ⟨rowsTo ms t, colsTo ms t, cellsTo ms t⟩) := Lib.hid (by rw [← HM.out, orNone_ok HS.out]; unfold matStack colsTo; rw [HLEN.out, if_neg (by have := HN0.out; have := HLEN.out; omega)])
                  go_wp2_with fail
                  refine (error_eq _ _ _ (by assumption) HS.out).mono ?_
                  rintro e wy ⟨rfl, hby⟩
                  have C3 := B3.keep (show Below wr.heap.size wr wy from (by repeat (first | fail | (with_reducible exact Below.refl _ _) | (with_reducible refine Below.al ?_ _) | (with_reducible refine Below.drN ?_ _) | (with_reducible refine Below.drew ?_) | (with_reducible refine Below.st ?_ ?_ _; rotate_left 1; (first | (dsimp only; omega) | omega | (simp; omega) | simp)) | (with_reducible refine Below.go ?_ hby) | exact Below.refl _ _)))
                  have C3c := C3.cell
                  have C3f := C3.thawed
                  have C3z := C3.lt
                  have C3k := lt_add C3z
                  have C7 := BM.keep (show Below wr.heap.size wr wy from (by repeat (first | fail | (with_reducible exact Below.refl _ _) | (with_reducible refine Below.al ?_ _) | (with_reducible refine Below.drN ?_ _) | (with_reducible refine Below.drew ?_) | (with_reducible refine Below.st ?_ ?_ _; rotate_left 1; (first | (dsimp only; omega) | omega | (simp; omega) | simp)) | (with_reducible refine Below.go ?_ hby) | exact Below.refl _ _)))
                  have C7c := C7.cell
                  have C7f := C7.thawed
                  have C7z := C7.lt
                  have C7k := lt_add C7z
                  replace x1 := x1.keep (show Below wr.heap.size wr wy from (by repeat (first | fail | (with_reducible exact Below.refl _ _) | (with_reducible refine Below.al ?_ _) | (with_reducible refine Below.drN ?_ _) | (with_reducible refine Below.drew ?_) | (with_reducible refine Below.st ?_ ?_ _; rotate_left 1; (first | (dsimp only; omega) | omega | (simp; omega) | simp)) | (with_reducible refine Below.go ?_ hby) | exact Below.refl _ _)))
                  replace xv := xv.keep (show Below wr.heap.size wr wy from (by repeat (first | fail | (with_reducible exact Below.refl _ _) | (with_reducible refine Below.al ?_ _) | (with_reducible refine Below.drN ?_ _) | (with_reducible refine Below.drew ?_) | (with_reducible refine Below.st ?_ ?_ _; rotate_left 1; (first | (dsimp only; omega) | omega | (simp; omega) | simp)) | (with_reducible refine Below.go ?_ hby) | exact Below.refl _ _)))
                  go_wp2_with fail
                  refine (matrices_same M _ _ _ (MatAt.mk (show IntsAt _ a1 n1 k1 b1 o1 M.cells from (by repeat (first | fail | (with_reducible exact x1) | (with_reducible refine IntsAt.alloc ?_ _) | (with_reducible refine IntsAt.drewN ?_ _) | (with_reducible refine IntsAt.drew ?_) | (with_reducible refine IntsAt.set ?_ ?_ _; rotate_left 1; (intro h0; first | (dsimp only; omega) | omega | (simp; omega) | simp)) | exact x1)))) (by rw [HMS.out]; exact MatAt.mk (show IntsAt _ av (cellsTo ms t).length cv bv 0 (cellsTo ms t) from (by repeat (first | fail | (with_reducible exact xv) | (with_reducible refine IntsAt.alloc ?_ _) | (with_reducible refine IntsAt.drewN ?_ _) | (with_reducible refine IntsAt.drew ?_) | (with_reducible refine IntsAt.set ?_ ?_ _; rotate_left 1; (intro h0; first | (dsimp only; omega) | omega | (simp; omega) | simp)) | exact xv))))).mono ?_
                  rintro e wz ⟨rfl, hbz⟩
                  have hbe : Below w.heap.size w wz := (by repeat (first | fail | (with_reducible exact Below.refl _ _) | (with_reducible exact hbr) | (with_reducible refine Below.al ?_ _) | (with_reducible refine Below.drN ?_ _) | (with_reducible refine Below.drew ?_) | (with_reducible refine Below.st ?_ ?_ _; rotate_left 1; (first | (dsimp only; omega) | omega | (simp; omega) | simp)) | (with_reducible refine Below.go ?_ hbz) | (with_reducible refine Below.go ?_ hby) | exact Below.refl _ _ | exact hbr))
                  go_wp2
                  go_ret
                  exact ⟨rfl, hbe⟩
          · have HS : Hid (stackFault ms = 2) := Lib.hid (stack_cols HFF.out HN0.out hs)
            obtain rfl : x3 = 2 := by rw [HX3.out, if_neg hs]
            have HNE : Hid ((2 : Int) ≠ 0) := Lib.hid (by decide)
            have HMN : Hid (M = Mat.none) := Lib.hid (by rw [← HM.out]; unfold orNone; rw [if_neg (by rw [HS.out]; exact HNE.out)])
            clear hs HX3
            go_wp2_with fail
            go_loopw [9] (fun i wr => i = .int .i64 0 ∧ wD = wr) (fun _ _ => 0)
            case atStart => exact ⟨rfl, rfl⟩
            case round =>
              obtain ⟨rfl, rfl⟩ := hrel
              go_wp2_with fail
              have hhl := hh.lt
              obtain ⟨wC, hwC, C7, C3, hhC, xC, hbC⟩ : ∃ wC, (((wD.setCell ⟨wA.heap.size, 0, none⟩ (.int .i64 0)).setCell ⟨wA.heap.size, 1, none⟩ (.int .i64 0)).setCell ⟨wA.heap.size, 2, none⟩ (.slice none 0 0)) = wC ∧ Box wC wA.heap.size [.int .i64 0, .int .i64 0, .slice none 0 0] 25 ∧ Box wC w1.heap.size [.int .i64 M.rows, .int .i64 M.cols, .slice a1 n1 k1] 25 ∧ Handle wC ∧ IntsAt wC a1 n1 k1 b1 o1 M.cells ∧ Below w.heap.size w wC :=
                ⟨_, rfl, ((B7.set 0 _).set 1 _).set 2 _, ((B3.far (by simp; omega) _).far (by simp; omega) _).far (by simp; omega) _, hh.farS (((Far.refl (fun b => b = wA.heap.size) wD).st (fun _ => rfl) (.int .i64 0)).st (fun _ => rfl) (.int .i64 0) |>.st (fun _ => rfl) (.slice none 0 0)) (by intro e; omega), ((x1.set (fun h => by have := l1 h; simp; omega) _).set (fun h => by have := l1 h; simp; omega) _).set (fun h => by have := l1 h; simp; omega) _, (by repeat (first | fail | (with_reducible exact Below.refl _ _) | (with_reducible exact hbD) | (with_reducible refine Below.al ?_ _) | (with_reducible refine Below.drN ?_ _) | (with_reducible refine Below.drew ?_) | (with_reducible refine Below.st ?_ ?_ _; rotate_left 1; (first | (dsimp only; omega) | omega | (simp; omega) | simp)) | exact Below.refl _ _ | exact hbD))⟩
              rw [hwC]
              clear hwC
              refine (error_eq _ _ _ hhC HS.out).mono ?_
              rintro e wy ⟨rfl, hby⟩
              have C3 := C3.keep hby
              have C3c := C3.cell
              have C3f := C3.thawed
              have C3z := C3.lt
              have C3k := lt_add C3z
              have C7 := C7.keep hby
              have C7c := C7.cell
              have C7f := C7.thawed
              have C7z := C7.lt
              have C7k := lt_add C7z
              replace xC := xC.keep hby
              go_wp2_with fail
              refine (matrices_same M _ _ _ (MatAt.mk (show IntsAt _ a1 n1 k1 b1 o1 M.cells from (by repeat (first | fail | (with_reducible exact xC) | (with_reducible refine IntsAt.alloc ?_ _) | (with_reducible refine IntsAt.drewN ?_ _) | (with_reducible refine IntsAt.drew ?_) | (with_reducible refine IntsAt.set ?_ ?_ _; rotate_left 1; (intro h0; first | (dsimp only; omega) | omega | (simp; omega) | simp)) | exact xC)))) (by rw [HMN.out]; exact MatAt.nought _)).mono ?_
              rintro e wz ⟨rfl, hbz⟩
              have hbe : Below w.heap.size w wz := (by repeat (first | fail | (with_reducible exact Below.refl _ _) | (with_reducible exact hbC) | (with_reducible refine Below.al ?_ _) | (with_reducible refine Below.drN ?_ _) | (with_reducible refine Below.drew ?_) | (with_reducible refine Below.st ?_ ?_ _; rotate_left 1; (first | (dsimp only; omega) | omega | (simp; omega) | simp)) | (with_reducible refine Below.go ?_ hbz) | (with_reducible refine Below.go ?_ hby) | exact Below.refl _ _ | exact hbC))
              go_wp2
              go_ret
              exact ⟨rfl, hbe⟩
    · have HS : Hid (stackFault ms = firstFault ms) := Lib.hid (stack_ff hff)
      have HNE : Hid (firstFault ms ≠ 0) := Lib.hid hff
      have g1 : (firstFault ms == 0) = false := by simp [hff]
      have g2 : (firstFault ms != 0) = true := by simp [hff]
      clear hff
      by_cases h0 : n = 0
      · have g3 : ¬ (0 : Int) < (n : Int) := by omega
        clear h0
        have HMN : Hid (M = Mat.none) := Lib.hid (by rw [← HM.out]; unfold orNone; rw [if_neg (by rw [HS.out]; exact HNE.out)])
        go_wp2_with fail
        obtain ⟨wB, hwB, B7, B3, r, hh, x1, hbB, hbB'⟩ : ∃ wB, wA.alloc (.cells #[.int .i64 0, .int .i64 0, .slice none 0 0] 25) = wB ∧ Box wB wA.heap.size [.int .i64 0, .int .i64 0, .slice none 0 0] 25 ∧ Box wB w1.heap.size [.int .i64 M.rows, .int .i64 M.cols, .slice a1 n1 k1] 25 ∧ MatsAt wB a n k b o ms ∧ Handle wB ∧ IntsAt wB a1 n1 k1 b1 o1 M.cells ∧ Below w.heap.size w wB ∧ Below wA.heap.size wA wB := ⟨_, rfl, Box.new _ _ _, (by repeat (first | fail | (with_reducible exact B3) | (with_reducible refine Box.alloc ?_ _) | (with_reducible refine Box.drewN ?_ _) | (with_reducible refine Box.drew ?_) | (with_reducible refine Box.far ?_ ?_ _; rotate_left 1; (first | (dsimp only; omega) | omega | (simp; omega) | simp)) | exact B3)), r.keep (by repeat (first | fail | (with_reducible exact Below.refl _ _) | (with_reducible refine Below.al ?_ _) | (with_reducible refine Below.drN ?_ _) | (with_reducible refine Below.drew ?_) | (with_reducible refine Below.st ?_ ?_ _; rotate_left 1; (first | (dsimp only; omega) | omega | (simp; omega) | simp)) | exact Below.refl _ _)), hh.alloc _, (by repeat (first | fail | (with_reducible exact x1) | (with_reducible refine IntsAt.alloc ?_ _) | (with_reducible refine IntsAt.drewN ?_ _) | (with_reducible refine IntsAt.drew ?_) | (with_reducible refine IntsAt.set ?_ ?_ _; rotate_left 1; (intro h0; first | (dsimp only; omega) | omega | (simp; omega) | simp)) | exact x1)), (by repeat (first | fail | (with_reducible exact Below.refl _ _) | (with_reducible exact hbA) | (with_reducible refine Below.al ?_ _) | (with_reducible refine Below.drN ?_ _) | (with_reducible refine Below.drew ?_) | (with_reducible refine Below.st ?_ ?_ _; rotate_left 1; (first | (dsimp only; omega) | omega | (simp; omega) | simp)) | exact Below.refl _ _ | exact hbA)), (by repeat (first | fail | (with_reducible exact Below.refl _ _) | (with_reducible refine Below.al ?_ _) | (with_reducible refine Below.drN ?_ _) | (with_reducible refine Below.drew ?_) | (with_reducible refine Below.st ?_ ?_ _; rotate_left 1; (first | (dsimp only; omega) | omega | (simp; omega) | simp)) | exact Below.refl _ _))⟩
        rw [hwB]
        clear hwB
        have hz7 : wA.heap.size < wB.heap.size := B7.lt
        have hzw := hbA.size
        have B3 := B3
        have B3c := B3.cell
        have B3f := B3.thawed
        have B3z := B3.lt
        have B3k := lt_add B3z
        have B7 := B7
        have B7c := B7.cell
        have B7f := B7.thawed
        have B7z := B7.lt
        have B7k := lt_add B7z
        go_loopw [5, 8] (fun e i wr => e = .int .i64 (firstFault ms) ∧ i = .int .i64 0 ∧ wB = wr) (fun _ _ _ => 0)
        case atStart => exact ⟨rfl, rfl, rfl⟩
        case round =>
          obtain ⟨rfl, rfl, rfl⟩ := hrel
          go_wp2_with fail
          go_loopw [9] (fun i wr => i = .int .i64 0 ∧ wB = wr) (fun _ _ => 0)
          case atStart => exact ⟨rfl, rfl⟩
          case round =>
            obtain ⟨rfl, rfl⟩ := hrel
            go_wp2_with fail
            have hhl := hh.lt
            obtain ⟨wC, hwC, C7, C3, hhC, xC, hbC⟩ : ∃ wC, (((wB.setCell ⟨wA.heap.size, 0, none⟩ (.int .i64 0)).setCell ⟨wA.heap.size, 1, none⟩ (.int .i64 0)).setCell ⟨wA.heap.size, 2, none⟩ (.slice none 0 0)) = wC ∧ Box wC wA.heap.size [.int .i64 0, .int .i64 0, .slice none 0 0] 25 ∧ Box wC w1.heap.size [.int .i64 M.rows, .int .i64 M.cols, .slice a1 n1 k1] 25 ∧ Handle wC ∧ IntsAt wC a1 n1 k1 b1 o1 M.cells ∧ Below w.heap.size w wC :=
              ⟨_, rfl, ((B7.set 0 _).set 1 _).set 2 _, ((B3.far (by simp; omega) _).far (by simp; omega) _).far (by simp; omega) _, hh.farS (((Far.refl (fun b => b = wA.heap.size) wB).st (fun _ => rfl) (.int .i64 0)).st (fun _ => rfl) (.int .i64 0) |>.st (fun _ => rfl) (.slice none 0 0)) (by intro e; omega), ((x1.set (fun h => by have := l1 h; simp; omega) _).set (fun h => by have := l1 h; simp; omega) _).set (fun h => by have := l1 h; simp; omega) _, (by repeat (first | fail | (with_reducible exact Below.refl _ _) | (with_reducible exact hbB) | (with_reducible refine Below.al ?_ _) | (with_reducible refine Below.drN ?_ _) | (with_reducible refine Below.drew ?_) | (with_reducible refine Below.st ?_ ?_ _; rotate_left 1; (first | (dsimp only; omega) | omega | (simp; omega) | simp)) | exact Below.refl _ _ | exact hbB))⟩
            rw [hwC]
            clear hwC
            refine (error_eq _ _ _ hhC HS.out).mono ?_
            rintro e wy ⟨rfl, hby⟩
            have C3 := C3.keep hby
            have C3c := C3.cell
            have C3f := C3.thawed
            have C3z := C3.lt
            have C3k := lt_add C3z
            have C7 := C7.keep hby
            have C7c := C7.cell
            have C7f := C7.thawed
            have C7z := C7.lt
            have C7k := lt_add C7z
            replace xC := xC.keep hby
            go_wp2_with fail
            refine (matrices_same M _ _ _ (MatAt.mk (show IntsAt _ a1 n1 k1 b1 o1 M.cells from (by repeat (first | fail | (with_reducible exact xC) | (with_reducible refine IntsAt.alloc ?_ _) | (with_reducible refine IntsAt.drewN ?_ _) | (with_reducible refine IntsAt.drew ?_) | (with_reducible refine IntsAt.set ?_ ?_ _; rotate_left 1; (intro h0; first | (dsimp only; omega) | omega | (simp; omega) | simp)) | exact xC)))) (by rw [HMN.out]; exact MatAt.nought _)).mono ?_
            rintro e wz ⟨rfl, hbz⟩
            have hbe : Below w.heap.size w wz := (by repeat (first | fail | (with_reducible exact Below.refl _ _) | (with_reducible exact hbC) | (with_reducible refine Below.al ?_ _) | (with_reducible refine Below.drN ?_ _) | (with_reducible refine Below.drew ?_) | (with_reducible refine Below.st ?_ ?_ _; rotate_left 1; (first | (dsimp only; omega) | omega | (simp; omega) | simp)) | (with_reducible refine Below.go ?_ hbz) | (with_reducible refine Below.go ?_ hby) | exact Below.refl _ _ | exact hbC))
            go_wp2
            go_ret
            exact ⟨rfl, hbe⟩
      · have g3 : (0 : Int) < (n : Int) := by omega
        clear h0
        have HMN : Hid (M = Mat.none) := Lib.hid (by rw [← HM.out]; unfold orNone; rw [if_neg (by rw [HS.out]; exact HNE.out)])
        go_wp2_with fail
        obtain ⟨wB, hwB, B7, B3, r, hh, x1, hbB, hbB'⟩ : ∃ wB, wA.alloc (.cells #[.int .i64 0, .int .i64 0, .slice none 0 0] 25) = wB ∧ Box wB wA.heap.size [.int .i64 0, .int .i64 0, .slice none 0 0] 25 ∧ Box wB w1.heap.size [.int .i64 M.rows, .int .i64 M.cols, .slice a1 n1 k1] 25 ∧ MatsAt wB a n k b o ms ∧ Handle wB ∧ IntsAt wB a1 n1 k1 b1 o1 M.cells ∧ Below w.heap.size w wB ∧ Below wA.heap.size wA wB := ⟨_, rfl, Box.new _ _ _, (by repeat (first | fail | (with_reducible exact B3) | (with_reducible refine Box.alloc ?_ _) | (with_reducible refine Box.drewN ?_ _) | (with_reducible refine Box.drew ?_) | (with_reducible refine Box.far ?_ ?_ _; rotate_left 1; (first | (dsimp only; omega) | omega | (simp; omega) | simp)) | exact B3)), r.keep (by repeat (first | fail | (with_reducible exact Below.refl _ _) | (with_reducible refine Below.al ?_ _) | (with_reducible refine Below.drN ?_ _) | (with_reducible refine Below.drew ?_) | (with_reducible refine Below.st ?_ ?_ _; rotate_left 1; (first | (dsimp only; omega) | omega | (simp; omega) | simp)) | exact Below.refl _ _)), hh.alloc _, (by repeat (first | fail | (with_reducible exact x1) | (with_reducible refine IntsAt.alloc ?_ _) | (with_reducible refine IntsAt.drewN ?_ _) | (with_reducible refine IntsAt.drew ?_) | (with_reducible refine IntsAt.set ?_ ?_ _; rotate_left 1; (intro h0; first | (dsimp only; omega) | omega | (simp; omega) | simp)) | exact x1)), (by repeat (first | fail | (with_reducible exact Below.refl _ _) | (with_reducible exact hbA) | (with_reducible refine Below.al ?_ _) | (with_reducible refine Below.drN ?_ _) | (with_reducible refine Below.drew ?_) | (with_reducible refine Below.st ?_ ?_ _; rotate_left 1; (first | (dsimp only; omega) | omega | (simp; omega) | simp)) | exact Below.refl _ _ | exact hbA)), (by repeat (first | fail | (with_reducible exact Below.refl _ _) | (with_reducible refine Below.al ?_ _) | (with_reducible refine Below.drN ?_ _) | (with_reducible refine Below.drew ?_) | (with_reducible refine Below.st ?_ ?_ _; rotate_left 1; (first | (dsimp only; omega) | omega | (simp; omega) | simp)) | exact Below.refl _ _))⟩
        rw [hwB]
        clear hwB
        have hz7 : wA.heap.size < wB.heap.size := B7.lt
        have hzw := hbA.size
        have B3 := B3
        have B3c := B3.cell
        have B3f := B3.thawed
        have B3z := B3.lt
        have B3k := lt_add B3z
        have B7 := B7
        have B7c := B7.cell
        have B7f := B7.thawed
        have B7z := B7.lt
        have B7k := lt_add B7z
        go_loopw [5, 8] (fun e i wr => e = .int .i64 (firstFault ms) ∧ i = .int .i64 0 ∧ wB = wr) (fun _ _ _ => 0)
        case atStart => exact ⟨rfl, rfl, rfl⟩
        case round =>
          obtain ⟨rfl, rfl, rfl⟩ := hrel
          go_wp2_with fail
          go_loopw [9] (fun i wr => i = .int .i64 0 ∧ wB = wr) (fun _ _ => 0)
          case atStart => exact ⟨rfl, rfl⟩
          case round =>
            obtain ⟨rfl, rfl⟩ := hrel
            go_wp2_with fail
            have hhl := hh.lt
            obtain ⟨wC, hwC, C7, C3, hhC, xC, hbC⟩ : ∃ wC, (((wB.setCell ⟨wA.heap.size, 0, none⟩ (.int .i64 0)).setCell ⟨wA.heap.size, 1, none⟩ (.int .i64 0)).setCell ⟨wA.heap.size, 2, none⟩ (.slice none 0 0)) = wC ∧ Box wC wA.heap.size [.int .i64 0, .int .i64 0, .slice none 0 0] 25 ∧ Box wC w1.heap.size [.int .i64 M.rows, .int .i64 M.cols, .slice a1 n1 k1] 25 ∧ Handle wC ∧ IntsAt wC a1 n1 k1 b1 o1 M.cells ∧ Below w.heap.size w wC :=
              ⟨_, rfl, ((B7.set 0 _).set 1 _).set 2 _, ((B3.far (by simp; omega) _).far (by simp; omega) _).far (by simp; omega) _, hh.farS (((Far.refl (fun b => b = wA.heap.size) wB).st (fun _ => rfl) (.int .i64 0)).st (fun _ => rfl) (.int .i64 0) |>.st (fun _ => rfl) (.slice none 0 0)) (by intro e; omega), ((x1.set (fun h => by have := l1 h; simp; omega) _).set (fun h => by have := l1 h; simp; omega) _).set (fun h => by have := l1 h; simp; omega) _, (by repeat (first | fail | (with_reducible exact Below.refl _ _) | (with_reducible exact hbB) | (with_reducible refine Below.al ?_ _) | (with_reducible refine Below.drN ?_ _) | (with_reducible refine Below.drew ?_) | (with_reducible refine Below.st ?_ ?_ _; rotate_left 1; (first | (dsimp only; omega) | omega | (simp; omega) | simp)) | exact Below.refl _ _ | exact hbB))⟩
            rw [hwC]
            clear hwC
            refine (error_eq _ _ _ hhC HS.out).mono ?_
            rintro e wy ⟨rfl, hby⟩
            have C3 := C3.keep hby
            have C3c := C3.cell
            have C3f := C3.thawed
            have C3z := C3.lt
            have C3k := lt_add C3z
            have C7 := C7.keep hby
            have C7c := C7.cell
            have C7f := C7.thawed
            have C7z := C7.lt
            have C7k := lt_add C7z
            replace xC := xC.keep hby
            go_wp2_with fail
            refine (matrices_same M _ _ _ (MatAt.mk (show IntsAt _ a1 n1 k1 b1 o1 M.cells from (by repeat (first | fail | (with_reducible exact xC) | (with_reducible refine IntsAt.alloc ?_ _) | (with_reducible refine IntsAt.drewN ?_ _) | (with_reducible refine IntsAt.drew ?_) | (with_reducible refine IntsAt.set ?_ ?_ _; rotate_left 1; (intro h0; first | (dsimp only; omega) | omega | (simp; omega) | simp)) | exact xC)))) (by rw [HMN.out]; exact MatAt.nought _)).mono ?_
            rintro e wz ⟨rfl, hbz⟩
            have hbe : Below w.heap.size w wz := (by repeat (first | fail | (with_reducible exact Below.refl _ _) | (with_reducible exact hbC) | (with_reducible refine Below.al ?_ _) | (with_reducible refine Below.drN ?_ _) | (with_reducible refine Below.drew ?_) | (with_reducible refine Below.st ?_ ?_ _; rotate_left 1; (first | (dsimp only; omega) | omega | (simp; omega) | simp)) | (with_reducible refine Below.go ?_ hbz) | (with_reducible refine Below.go ?_ hby) | exact Below.refl _ _ | exact hbC))
            go_wp2
            go_ret
            exact ⟨rfl, hbe⟩

theorem own : ownKnob Tryd.prog.godebug = none := by kernel_rfl
theorem laidOut : laidOutB Tryd.prog = true := by kernel_rfl
theorem et : Tryd.prog.globalNamed "errors.errorType" = some 0 := by kernel_rfl
theorem rt : (Tryd.prog.cutTypes.find? (·.1 == "internal/reflectlite.rtype")).map (·.2) = some 135 := by kernel_rfl
theorem oneRow : ((List.range 183).filter fun t => Tryd.prog.rowNamed t [101, 114, 114, 111, 114]) = [27] := by kernel_rfl
theorem tsize : Tryd.prog.types.size = 183 := by kernel_rfl
theorem handle_of_laid {W : World} (h : laidMetH Tryd.prog Rows.matStacksUptoRow.laid W) : Handle W := by
  have h' : laidMet Tryd.prog [] W ∧ handlesMet Tryd.prog Rows.matStacksUptoRow.laid W := h
  obtain ⟨name, u, ty, e1, e2, e3, e4, e5⟩ := h'.2 _ (List.mem_singleton.2 rfl)
  have en : name = [101, 114, 114, 111, 114] := (Option.some.inj e1).symm
  subst en
  obtain rfl := Option.some.inj (rt.symm.trans e2)
  have hm : ty ∈ (List.range 183).filter fun t => Tryd.prog.rowNamed t [101, 114, 114, 111, 114] := List.mem_filter.2 ⟨List.mem_range.2 (by rw [← tsize]; exact e3), e4⟩
  rw [oneRow] at hm
  obtain rfl := List.mem_singleton.1 hm
  have hh : typeHandle Tryd.prog 27 = .pointer (some ⟨1, 27, none⟩) := by kernel_rfl
  rw [hh] at e5
  simpa [Handle, handleV] using World.var?_cell et e5 0
noncomputable def laidWorld (os : Os) : World :=
  { World.holding Tryd.prog os ⟨#[], #[], []⟩ with heap := (World.holding Tryd.prog os ⟨#[], #[], []⟩).heap.modify 0 fun
      | .cells _ t frozen => .cells #[.iface 135 (.agg #[.pointer (some ⟨1, 27, none⟩)])] t frozen
      | o => o }
theorem laid_met (os : Os) : laidMetH Tryd.prog Rows.matStacksUptoRow.laid ((laidWorld os).forCall (fun _ _ => 0) ⟨#[], #[.slice none 0 0], []⟩).memory :=
  laidMetH_of_parts (laidMet_nil _ _) (by kernel_rfl)
theorem reads (os : Os) {H : Type} (enc : TypeId × Value → H) : ∃ places, DataW.whole enc Tryd.prog ((laidWorld os).forCall (fun _ _ => 0) ⟨#[], #[.slice none 0 0], []⟩).memory Tryd.f3.params.toList Rows.matStacksSpec.vars false (#[.slice none 0 0] : Array Value).toList 8 = some ([.nil], [], places) :=
  ⟨[], by kernel_rfl⟩
set_option maxRecDepth 100000 in
set_option maxHeartbeats 1000000 in
theorem contract (H : Type) (enc : TypeId × Value → H) (W : World) (base : Nat) (args : Array Value) (ds gs : List (DataW H)) (before : List MemPlace)
    (hval0 : ∀ (j : Nat) t v, Tryd.f3.params[j]? = some t → args[j]? = some v → Value.okWide Tryd.prog W .any base t v)
    (hW : DataW.Whole enc Tryd.prog Tryd.f3.params.toList Rows.matStacksSpec.vars false W args.toList ds gs before) (hh : Handle W) (hk : Rows.uptoBulkAll (ds ++ gs) ≤ 1048576) :
    Calls Tryd.prog 3 args W fun e W' => ∃ v, e = .returned v ∧ Rows.matStacksSpec.post enc Tryd.prog Tryd.f3 false true false false W args v W' := by
  have hval := hval0
  have hW' := hW
  obtain ⟨p, q, hA0, hV, rfl, hfz, hnd⟩ := hW
  have hA : DataW.TrodAll enc Tryd.prog W 0 (fun _ => true) true Tryd.f3.params.toList args.toList ds p := hA0
  rw [Tryd.params3] at hA hval
  obtain ⟨v0, vs0, d0, ds0, p0, q0, hargs, rfl, rfl, h0, r0⟩ := trodAll_cons hA
  obtain ⟨rfl, rfl, rfl⟩ := trodAll_nil r0
  obtain rfl : args = #[v0] := by cases args; simp_all
  obtain ⟨rfl, rfl⟩ := trodVars_none hV
  simp only [List.append_nil, List.cons_append, List.nil_append, Rows.uptoBulkAll] at hk
  have k0 := h0
  have lt0 : ∀ x ∈ p0, x.block < W.heap.size := by obtain ⟨m, hm⟩ := k0; exact DataW.trod_lt m _ _ _ hm
  obtain ⟨a0, w0, z0⟩ := open_lMatrix_upto (hval 0 22 v0 rfl rfl) h0
  clear hA0 hval0
  refine (walk a0 v0 W w0 hh (by first | omega | (simp only [Rows.uptoBulk] at hk; omega))).mono fun e W' ⟨he, bel⟩ => ?_
  subst he
  exact ⟨_, rfl, _, _, _, [], _, [], hW', trodAll_mk1 (shut_bool Tryd.underlying4 _), (trodAll_cons_mk (Below.trod laidOut (by kernel_rfl) (of_decide_eq_true (by kernel_rfl)) k0 bel lt0) trodAll_mk0), rfl, bel.frame _, fun h => by cases h⟩

set_option maxRecDepth 100000 in
theorem lifted (os : Os) (started : os.Started) (H : Type) (enc : TypeId × Value → H) (F : Stop.Interp) :
    ReturnsInHanded {} Tryd.checked os 3 .any ((Rows.OpenSpec.upto Rows.matStacksSpec).preRow enc Tryd.prog Tryd.f3 Rows.matStacksUptoRow.domain false Rows.matStacksUptoRow.laid) (((Rows.OpenSpec.upto Rows.matStacksSpec).at F).post enc Tryd.prog Tryd.f3 false true false false) := by
  obtain ⟨places, hx⟩ := reads os enc
  refine returnsInHanded_of_row (C := Tryd.checked) (s := Rows.OpenSpec.upto Rows.matStacksSpec) own started (by kernel_rfl) Tryd.func3
    (witness_row_at (enc := enc) (C := Tryd.checked) false (laidWorld os) #[.slice none 0 0] rfl (by kernel_rfl) (by kernel_rfl) (by kernel_rfl)
      (OpenSpec.preRow_of_cond 8 hx (by kernel_rfl) (fun k hk => by cases hk; kernel_rfl) (by kernel_rfl) (laid_met os))) ?_
  intro W base args ds gs before hval hW _ hcond _ hL _ _
  exact contract H enc W base args ds gs before hval hW (handle_of_laid hL) (of_decide_eq_true (hcond _ rfl))

theorem said : Rows.MatStacksUptoSaid :=
  OpenClaim.holds_of_cond 3 Tryd.f3 rfl rfl rfl rfl rfl rfl rfl ⟨rfl, rfl, rfl, rfl, rfl⟩ rfl rfl rfl rfl rfl (by kernel_rfl) Tryd.func3 (by kernel_rfl)
    (of_decide_eq_true (by kernel_rfl)) (by unfold Func.isWrapper; first | (rw [if_pos (by decide +kernel)]; kernel_rfl) | (rw [if_neg (by decide +kernel)]; exact ⟨rfl, rfl⟩))
    (fun os started H enc _ F => by rw [OpenClaim.pre_eq_preRow]; exact lifted os started H enc F)
theorem plain (f : FuncId) (fn : Func) (hf : Tryd.pinned.checked.prog.funcNamed Rows.matStacksUptoRow.func = some f) (hfn : Tryd.pinned.checked.prog.funcs[f]? = some fn) :
    Rows.matStacksUptoCard.stood.looks = Tryd.pinned.checked.prog.looks [] ∧ ∀ (j : Nat) t, fn.params[j]? = some t → Tryd.pinned.checked.prog.wantsStandIn t = false := by
  obtain rfl : f = 3 := Option.some.inj ((show Tryd.prog.funcNamed Rows.matStacksUptoRow.func = some 3 by kernel_rfl).symm.trans hf) |>.symm
  obtain rfl : fn = Tryd.f3 := (Option.some.inj (Tryd.func3.symm.trans hfn)).symm
  refine ⟨by kernel_rfl, fun j t ht => ?_⟩
  rw [Tryd.params3] at ht
  have hm := Array.mem_of_getElem? ht
  have hc : t = 22 := by simpa using hm
  rcases hc with rfl
  · exact (show Tryd.prog.wantsStandIn 22 = false by kernel_rfl)
theorem proved : Rows.MatStacksUptoCardSaid :=
  Claim7.holds_tied_plain_at .later [] _ _ _ _ said (fun _ h => by cases h) (by kernel_rfl) (fun _ h => by cases h) matStacksUpto_row_tie rfl ⟨rfl, rfl⟩ (by kernel_rfl) rfl plain (by kernel_rfl)
#print axioms proved

end Go.Proofs.YtikcdjibflleeaaDoor.lawMatStacks
