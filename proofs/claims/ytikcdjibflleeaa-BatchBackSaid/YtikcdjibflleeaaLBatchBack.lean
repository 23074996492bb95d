/- BatchBack: a batch cut into parts and joined is the same; no two parts are more than a row apart, the greater ones are first: the law returns true, and the input reads as it did. No condition. -/
import Derived.Test.YtikcdjibflleeaaRows
import Derived.Test.YtikcdjibflleeaaJoin
import Derived.Test.YtikcdjibflleeaaUni
import Derived.Deep.DeepCutAuto
set_option linter.unusedVariables false
set_option linter.unusedSimpArgs false
set_option linter.unusedSectionVars false
namespace Gal
open Go Go.RowKit
/-- what the parts' rows are like -/
theorem sizes_like {R P : Nat} (hP : 1 ≤ P) (hR : P ≤ R) : (∀ k, k < P → 1 ≤ nx (sizesOf R P) k) ∧ (∀ k, k < P → nx (sizesOf R P) k ≤ nx (sizesOf R P) 0 ∧ nx (sizesOf R P) 0 ≤ nx (sizesOf R P) k + 1) ∧ (∀ k, k + 1 < P → nx (sizesOf R P) (k + 1) ≤ nx (sizesOf R P) k) := by
  have hl := sizesOf_length P R
  have hm : ∀ k, k < P → nx (sizesOf R P) k ∈ sizesOf R P := fun k hk => by
    unfold nx
    rw [List.getElem?_eq_getElem (by omega)]
    exact List.getElem_mem _
  have hf : ∀ k, k + 1 < P → nx (sizesOf R P) (k + 1) ≤ nx (sizesOf R P) k := fun k hk => sizesOf_falls P R k hk
  have h0 : ∀ k, k < P → nx (sizesOf R P) k ≤ nx (sizesOf R P) 0 := fun k => by
    induction k with
    | zero => exact fun _ => Nat.le_refl _
    | succ k ih => exact fun hk => Nat.le_trans (hf k hk) (ih (by omega))
  have hq : ∀ n ∈ sizesOf R P, R / P ≤ n ∧ n ≤ R / P + 1 := sizesOf_near P R (R / P) (Nat.div_mul_le_self R P) (by
    have := Nat.lt_mul_div_succ R (show 0 < P by omega)
    rw [Nat.mul_comm]
    omega)
  refine ⟨fun k hk => sizesOf_pos P R hR _ (hm k hk), fun k hk => ⟨h0 k hk, ?_⟩, hf⟩
  have h1 := hq _ (hm k hk)
  have h2 := hq _ (hm 0 (by omega))
  omega
end Gal
namespace Go.Proofs.Ytikcdjibflleeaa.lawBatchBack
open Go.ChangeShapes Go.WideShapes Go.ChangeAt Go.RowKit Gal
set_option maxRecDepth 100000
set_option maxHeartbeats 4000000
theorem sizes_10 (w : World) : Calls Try.prog 10 #[.int .i64 10, .int .i64 4] w fun e w' => ∃ a k b, e = .returned (.tuple #[.slice a 4 k, .nilIface]) ∧ IntsAt w' a 4 k b 0 [3, 3, 2, 2] ∧ Below w.heap.size w w' := by
  refine (batchSizes_ok 10 4 w (by decide) (by decide) (by decide) (by decide)).mono ?_
  rintro e w' ⟨v, rfl, hown, hb⟩
  obtain ⟨a, k, b, rfl, _, x⟩ := IntsAt.of_own hown
  exact ⟨a, k, b, rfl, x, hb⟩
theorem walk (d : Bat) (v : Value) (p : Int) (w : World) (h : BatAt w v d) (hp : (Lit.int .i64 p).wf = true) :
    Calls Try.prog 4 #[v, .int .i64 p] w fun e w' => e = .returned (.bool true) ∧ Below w.heap.size w w' := by
  obtain ⟨a, n, k, b, o, a', n', k', b', o', rfl, x0, x1⟩ := h
  clear hp
  by_cases hf : splitFault d p = 0
  · have HE : Hid (errV (splitFault d p) = .nilIface) := Lib.hid (errV_nil hf)
    have hd : d.fault = 0 := by
      unfold splitFault at hf
      by_cases h1 : d.fault ≠ 0
      · rw [if_pos h1] at hf; exact absurd hf h1
      · exact Classical.not_not.1 h1
    have hs : sizesFault d.I.rows p = 0 := by unfold splitFault at hf; rwa [if_neg (by simp [hd])] at hf
    obtain ⟨g1, g2, g3, g4, g5⟩ := sizesFault_ok hs
    obtain ⟨R, hR⟩ := Int.eq_ofNat_of_zero_le (show 0 ≤ d.I.rows by omega)
    obtain ⟨P, rfl⟩ := Int.eq_ofNat_of_zero_le (show 0 ≤ p by omega)
    have hRn : d.I.rows.toNat = R := by rw [hR]; simp
    obtain ⟨s, hsz⟩ : ∃ s, sizesOf R P = s := ⟨_, rfl⟩
    have hlike := sizes_like (R := R) (P := P) (by omega) (by omega)
    rw [hsz] at hlike
    obtain ⟨l1, l2, l3⟩ := hlike
    have hsl : s.length = P := by rw [← hsz]; exact sizesOf_length P R
    have hss : s.sum = d.I.rows.toNat := by rw [← hsz, hRn]; exact sizesOf_sum P R (by omega)
    obtain ⟨j1, j2, j3, j4⟩ := parts_join hd hsl hss (by omega) l1
    have J1 := Lib.hid j1
    have J2 := Lib.hid j2
    have J3 := Lib.hid j3
    have J4 := Lib.hid j4
    have L1 := Lib.hid l1
    have L2 := Lib.hid l2
    have L3 := Lib.hid l3
    have HS : Hid (splitFault d (P : Int) = 0) := Lib.hid hf
    have HZ : Hid (sizesOf d.I.rows.toNat P = s) := Lib.hid (by rw [hRn]; exact hsz)
    have hz24 : nx s 0 ≤ 24 := by have := atOf_le s 1; rw [hss] at this; have h2 : atOf s 1 = 0 + nx s 0 := rfl; omega
    have hP1 : 1 ≤ P := by omega
    have hP12 : P ≤ 12 := by omega
    clear hd hs hf g1 g2 g3 g4 g5 hR hRn hsl hss hsz j1 j2 j3 j4 l1 l2 l3
    have hne : ((P : Int) != (P : Int)) = false := by simp
    go_enter Try.func4, Try.ntmps4
    go_wp2_with fail
    refine (sizes_10 _).mono ?_
    rintro e w1 ⟨a1, k1, b1, rfl, y1, hb1⟩
    have B2 := ((show Box _ w.heap.size [.int .i64 d.I.rows, .int .i64 d.I.cols, .slice a n k, .int .i64 d.W.rows, .int .i64 d.W.cols, .slice a' n' k'] 42 from (by repeat (first | fail | (with_reducible refine (Box.new' _ w.heap.size _ _ ?_); (simp; done)) | (with_reducible refine Box.alloc ?_ _) | (with_reducible refine Box.drewN ?_ _) | (with_reducible refine Box.drew ?_) | (with_reducible refine Box.far ?_ ?_ _; rotate_left 1; (first | (dsimp only; omega) | omega | (simp; omega) | simp)))))).keep hb1
    have B2c := B2.cell
    have B2f := B2.thawed
    have B2z := B2.lt
    have B2k := lt_add B2z
    have hkw1 : Below w.heap.size w w1 := (by repeat (first | fail | (with_reducible exact Below.refl _ _) | (with_reducible refine Below.al ?_ _) | (with_reducible refine Below.drN ?_ _) | (with_reducible refine Below.drew ?_) | (with_reducible refine Below.st ?_ ?_ _; rotate_left 1; (first | (dsimp only; omega) | omega | (simp; omega) | simp)) | (with_reducible refine Below.go ?_ hb1) | exact Below.refl _ _))
    replace x0 := x0.keep hkw1
    replace x1 := x1.keep hkw1
    have hsw1 := hkw1.size
    go_wp2_with fail
    refine (ints_any _ _ _ _ _ _ _ _ _ _ [3, 3, 2, 2] [3, 3, 2, 2] _ (y1.alloc _) (ints_box2 (xs := [3, 3, 2, 2]) (Box.new w1 [.int .i64 3, .int .i64 3, .int .i64 2, .int .i64 2] 3) (by decide))).mono ?_
    rw [decide_eq_true rfl]
    rintro e w2' ⟨rfl, m2, rfl⟩
    obtain ⟨w2, hw2, C2, z0, z1, hb2⟩ : ∃ w2, w2 = (w1.alloc (.cells #[.int .i64 3, .int .i64 3, .int .i64 2, .int .i64 2] 3)).drewN m2 ∧ Box w2 w.heap.size [.int .i64 d.I.rows, .int .i64 d.I.cols, .slice a n k, .int .i64 d.W.rows, .int .i64 d.W.cols, .slice a' n' k'] 42 ∧ IntsAt w2 a n k b o d.I.cells ∧ IntsAt w2 a' n' k' b' o' d.W.cells ∧ Below w1.heap.size w1 w2 := ⟨_, rfl, (by repeat (first | fail | (with_reducible exact B2) | (with_reducible refine Box.alloc ?_ _) | (with_reducible refine Box.drewN ?_ _) | (with_reducible refine Box.drew ?_) | (with_reducible refine Box.far ?_ ?_ _; rotate_left 1; (first | (dsimp only; omega) | omega | (simp; omega) | simp)) | exact B2)), (by repeat (first | fail | (with_reducible exact x0) | (with_reducible refine IntsAt.alloc ?_ _) | (with_reducible refine IntsAt.drewN ?_ _) | (with_reducible refine IntsAt.drew ?_) | (with_reducible refine IntsAt.set ?_ ?_ _; rotate_left 1; (intro h0; first | (dsimp only; omega) | omega | (simp; omega) | simp)) | exact x0)), (by repeat (first | fail | (with_reducible exact x1) | (with_reducible refine IntsAt.alloc ?_ _) | (with_reducible refine IntsAt.drewN ?_ _) | (with_reducible refine IntsAt.drew ?_) | (with_reducible refine IntsAt.set ?_ ?_ _; rotate_left 1; (intro h0; first | (dsimp only; omega) | omega | (simp; omega) | simp)) | exact x1)), (by repeat (first | fail | (with_reducible exact Below.refl _ _) | (with_reducible refine Below.al ?_ _) | (with_reducible refine Below.drN ?_ _) | (with_reducible refine Below.drew ?_) | (with_reducible refine Below.st ?_ ?_ _; rotate_left 1; (first | (dsimp only; omega) | omega | (simp; omega) | simp)) | exact Below.refl _ _))⟩
    rw [← hw2]
    have hbw2 : Below w.heap.size w w2 := (by repeat (first | fail | (with_reducible exact Below.refl _ _) | (with_reducible refine Below.al ?_ _) | (with_reducible refine Below.drN ?_ _) | (with_reducible refine Below.drew ?_) | (with_reducible refine Below.st ?_ ?_ _; rotate_left 1; (first | (dsimp only; omega) | omega | (simp; omega) | simp)) | (with_reducible refine Below.go ?_ hb2) | (with_reducible refine Below.go ?_ hb1) | exact Below.refl _ _))
    clear hw2 B2 B2c B2f B2z B2k x0 x1 y1
    have B2 := C2
    have B2c := B2.cell
    have B2f := B2.thawed
    have B2z := B2.lt
    have B2k := lt_add B2z
    have x0 := z0
    have x1 := z1
    go_wp2_with fail
    refine (batchSplit_any d P _ _ ⟨_, _, _, _, _, _, _, _, _, _, rfl, x0, x1⟩).mono ?_
    simp only [Int.toNat_natCast]
    rw [HE.out, HZ.out]
    rintro e w3 ⟨u3, rfl, hb3, hv3, -⟩
    obtain ⟨a3, k3, b3, rfl, r3⟩ := hv3 HS.out
    clear hv3
    obtain rfl := r3.ptr (by omega)
    have hkw3 : Below w2.heap.size w2 w3 := (by repeat (first | fail | (with_reducible exact Below.refl _ _) | (with_reducible refine Below.al ?_ _) | (with_reducible refine Below.drN ?_ _) | (with_reducible refine Below.drew ?_) | (with_reducible refine Below.st ?_ ?_ _; rotate_left 1; (first | (dsimp only; omega) | omega | (simp; omega) | simp)) | (with_reducible refine Below.go ?_ hb3) | exact Below.refl _ _))
    replace B2 := B2.keep hkw3
    replace B2c := B2.cell
    replace B2f := B2.thawed
    replace B2z := B2.lt
    replace B2k := lt_add B2z
    replace x0 := x0.keep hkw3
    replace x1 := x1.keep hkw3
    have hsw3 := hkw3.size
    have hb3' : Below w.heap.size w w3 := (by repeat (first | fail | (with_reducible exact Below.refl _ _) | (with_reducible exact hbw2) | (with_reducible refine Below.al ?_ _) | (with_reducible refine Below.drN ?_ _) | (with_reducible refine Below.drew ?_) | (with_reducible refine Below.st ?_ ?_ _; rotate_left 1; (first | (dsimp only; omega) | omega | (simp; omega) | simp)) | (with_reducible refine Below.go ?_ hb3) | exact Below.refl _ _ | exact hbw2))
    have hcell : Hid (∀ i, i < P → w3.cell? ⟨b3, i * 6, none⟩ = some (.int .i64 (nx s i : Int))) := Lib.hid fun i hi => by
      obtain ⟨cs, hr, hc⟩ := r3.cell i (partOf d s i) (by unfold partsTo; rw [List.getElem?_map, List.getElem?_eq_getElem (by simpa using hi)]; simp)
      obtain ⟨p1, q1, q2, q3, q4, q5, q6, q7, q8, q9, rfl, _⟩ := bat_reads hr
      have this : w3.cell? ⟨b3, 0 + i * 6 + 0, none⟩ = some (.int .i64 (partOf d s i).I.rows) := hc 0 (by decide)
      rw [show (partOf d s i).I.rows = (nx s i : Int) from by show ((atOf s i + nx s i : Nat) : Int) - (atOf s i : Int) = _; omega] at this
      simpa using this
    go_wp2
    go_loopw [9] (fun i wr => ∃ t : Nat, t ≤ P ∧ i = .int .i64 t ∧ wr = w3) (fun i _ => P - (intOf i).toNat)
    case atStart => exact ⟨0, Nat.zero_le _, rfl, rfl⟩
    case round =>
      obtain ⟨t, ht, rfl, rfl⟩ := hrel
      by_cases hlt : t < P
      · have c0 := hcell.out 0 (by omega)
        have ct := hcell.out t hlt
        obtain ⟨e1, e2⟩ := L2.out t hlt
        have e3 := L1.out t hlt
        have e4 := L1.out 0 (by omega)
        obtain ⟨z, hz⟩ : ∃ z, z = nx s 0 := ⟨_, rfl⟩
        obtain ⟨y, hy⟩ : ∃ y, y = nx s t := ⟨_, rfl⟩
        rw [← hz] at c0 e1 e2 e4 hz24
        rw [← hy] at ct e1 e2 e3
        have f1 : ¬ (y : Int) < 1 := by omega
        have f2 : ¬ (z : Int) < (y : Int) := by omega
        have f3 : ¬ (y : Int) < (z : Int) - 1 := by omega
        have f4 : IntKind.i64.wrap ((z : Int) - 1) = (z : Int) - 1 := IntWalk.i64_in _ (by omega)
        have hi1 : (t : Int) < (P : Int) := by omega
        have hi2 : (0 : Int) ≤ (t : Int) := by omega
        rw [Nat.zero_mul] at c0
        cases t with
        | zero =>
          go_wp2
          go_roundw
          case rel => exact ⟨1, by omega, by go_num, by simp⟩
          case measure => simp [intOf]; omega
        | succ q =>
          have e5 := L3.out q hlt
          rw [← hy] at e5
          have cq := hcell.out q (by omega)
          obtain ⟨x, hx⟩ : ∃ x, x = nx s q := ⟨_, rfl⟩
          rw [← hx] at cq e5
          have f5 : ¬ (x : Int) < (y : Int) := by omega
          have f6 : (0 : Int) < ((q + 1 : Nat) : Int) := by omega
          have f7 : IntKind.i64.wrap (((q + 1 : Nat) : Int) - 1) = (q : Int) := by rw [show ((q + 1 : Nat) : Int) - 1 = (q : Int) by omega]; exact IntWalk.i64_in _ (by omega)
          have f8 : (q : Int) < (P : Int) := by omega
          have f9 : (0 : Int) ≤ (q : Int) := by omega
          obtain ⟨u, hu⟩ : ∃ u, u = q + 1 := ⟨_, rfl⟩
          rw [← hu] at ct hlt hi1 hi2 f6 f7 ht ⊢
          have HU := Lib.hid hu
          clear hu hx hy hz
          go_wp2
          go_roundw
          case rel => exact ⟨u + 1, by omega, by go_num, by simp⟩
          case measure => simp [intOf]; omega
      · obtain rfl : t = P := by omega
        go_wp2_with fail
        refine (batchJoin_ok _ _ _ _ _ _ _ _ (r3.wide (G := anyB) (fun _ _ _ => trivial)) (by omega) (by omega) J1.out J2.out J3.out).mono ?_
        rw [J4.out]
        rintro e w4 ⟨v4, rfl, ⟨a5, n5, k5, b5, o5, a6, n6, k6, b6, o6, rfl, z5, z6⟩, hb4⟩
        have hkw4 : Below wr.heap.size wr w4 := (by repeat (first | fail | (with_reducible exact Below.refl _ _) | (with_reducible refine Below.al ?_ _) | (with_reducible refine Below.drN ?_ _) | (with_reducible refine Below.drew ?_) | (with_reducible refine Below.st ?_ ?_ _; rotate_left 1; (first | (dsimp only; omega) | omega | (simp; omega) | simp)) | (with_reducible refine Below.go ?_ hb4) | exact Below.refl _ _))
        replace B2 := B2.keep hkw4
        replace B2c := B2.cell
        replace B2f := B2.thawed
        replace B2z := B2.lt
        replace B2k := lt_add B2z
        replace x0 := x0.keep hkw4
        replace x1 := x1.keep hkw4
        go_wp2_with fail
        refine (batches_same [d] anyB anyB _ _ 1 1 1 1 _ _ 0 0 _ (row_one (b := w4.heap.size + 1) (T := 42) (by repeat (first | fail | (with_reducible refine (Box.new' _ (w4.heap.size + 1) _ _ ?_); (simp; done)) | (with_reducible refine Box.alloc ?_ _) | (with_reducible refine Box.drewN ?_ _) | (with_reducible refine Box.drew ?_) | (with_reducible refine Box.far ?_ ?_ _; rotate_left 1; (first | (dsimp only; omega) | omega | (simp; omega) | simp)))) (reads_bat (fun _ => trivial) (show IntsAt _ a5 n5 k5 b5 o5 d.I.cells from (by repeat (first | fail | (with_reducible exact z5) | (with_reducible refine IntsAt.alloc ?_ _) | (with_reducible refine IntsAt.drewN ?_ _) | (with_reducible refine IntsAt.drew ?_) | (with_reducible refine IntsAt.set ?_ ?_ _; rotate_left 1; (intro h0; first | (dsimp only; omega) | omega | (simp; omega) | simp)) | exact z5))) (fun _ => trivial) (show IntsAt _ a6 n6 k6 b6 o6 d.W.cells from (by repeat (first | fail | (with_reducible exact z6) | (with_reducible refine IntsAt.alloc ?_ _) | (with_reducible refine IntsAt.drewN ?_ _) | (with_reducible refine IntsAt.drew ?_) | (with_reducible refine IntsAt.set ?_ ?_ _; rotate_left 1; (intro h0; first | (dsimp only; omega) | omega | (simp; omega) | simp)) | exact z6)))) trivial) (row_one (b := w4.heap.size + 1 + 1) (T := 42) (by repeat (first | fail | (with_reducible refine (Box.new' _ (w4.heap.size + 1 + 1) _ _ ?_); (simp; done)) | (with_reducible refine Box.alloc ?_ _) | (with_reducible refine Box.drewN ?_ _) | (with_reducible refine Box.drew ?_) | (with_reducible refine Box.far ?_ ?_ _; rotate_left 1; (first | (dsimp only; omega) | omega | (simp; omega) | simp)))) (reads_bat (fun _ => trivial) (show IntsAt _ a n k b o d.I.cells from (by repeat (first | fail | (with_reducible exact x0) | (with_reducible refine IntsAt.alloc ?_ _) | (with_reducible refine IntsAt.drewN ?_ _) | (with_reducible refine IntsAt.drew ?_) | (with_reducible refine IntsAt.set ?_ ?_ _; rotate_left 1; (intro h0; first | (dsimp only; omega) | omega | (simp; omega) | simp)) | exact x0))) (fun _ => trivial) (show IntsAt _ a' n' k' b' o' d.W.cells from (by repeat (first | fail | (with_reducible exact x1) | (with_reducible refine IntsAt.alloc ?_ _) | (with_reducible refine IntsAt.drewN ?_ _) | (with_reducible refine IntsAt.drew ?_) | (with_reducible refine IntsAt.set ?_ ?_ _; rotate_left 1; (intro h0; first | (dsimp only; omega) | omega | (simp; omega) | simp)) | exact x1)))) trivial)).mono ?_
        rintro e w5 ⟨rfl, hb5⟩
        have hbe : Below w.heap.size w w5 := (by repeat (first | fail | (with_reducible exact Below.refl _ _) | (with_reducible exact hb3') | (with_reducible refine Below.al ?_ _) | (with_reducible refine Below.drN ?_ _) | (with_reducible refine Below.drew ?_) | (with_reducible refine Below.st ?_ ?_ _; rotate_left 1; (first | (dsimp only; omega) | omega | (simp; omega) | simp)) | (with_reducible refine Below.go ?_ hb5) | (with_reducible refine Below.go ?_ hb4) | exact Below.refl _ _ | exact hb3'))
        go_wp2
        go_ret
        exact ⟨rfl, hbe⟩
  · have HE : Hid (errV (splitFault d p) = .iface 62 (.int .i64 (splitFault d p))) := Lib.hid (errV_err hf)
    clear hf
    go_enter Try.func4, Try.ntmps4
    go_wp2_with fail
    refine (sizes_10 _).mono ?_
    rintro e w1 ⟨a1, k1, b1, rfl, y1, hb1⟩
    have B2 := ((show Box _ w.heap.size [.int .i64 d.I.rows, .int .i64 d.I.cols, .slice a n k, .int .i64 d.W.rows, .int .i64 d.W.cols, .slice a' n' k'] 42 from (by repeat (first | fail | (with_reducible refine (Box.new' _ w.heap.size _ _ ?_); (simp; done)) | (with_reducible refine Box.alloc ?_ _) | (with_reducible refine Box.drewN ?_ _) | (with_reducible refine Box.drew ?_) | (with_reducible refine Box.far ?_ ?_ _; rotate_left 1; (first | (dsimp only; omega) | omega | (simp; omega) | simp)))))).keep hb1
    have B2c := B2.cell
    have B2f := B2.thawed
    have B2z := B2.lt
    have B2k := lt_add B2z
    have hkw1 : Below w.heap.size w w1 := (by repeat (first | fail | (with_reducible exact Below.refl _ _) | (with_reducible refine Below.al ?_ _) | (with_reducible refine Below.drN ?_ _) | (with_reducible refine Below.drew ?_) | (with_reducible refine Below.st ?_ ?_ _; rotate_left 1; (first | (dsimp only; omega) | omega | (simp; omega) | simp)) | (with_reducible refine Below.go ?_ hb1) | exact Below.refl _ _))
    replace x0 := x0.keep hkw1
    replace x1 := x1.keep hkw1
    have hsw1 := hkw1.size
    go_wp2_with fail
    refine (ints_any _ _ _ _ _ _ _ _ _ _ [3, 3, 2, 2] [3, 3, 2, 2] _ (y1.alloc _) (ints_box2 (xs := [3, 3, 2, 2]) (Box.new w1 [.int .i64 3, .int .i64 3, .int .i64 2, .int .i64 2] 3) (by decide))).mono ?_
    rw [decide_eq_true rfl]
    rintro e w2' ⟨rfl, m2, rfl⟩
    go_wp2_with fail
    refine (batchSplit_any d p _ _ ⟨_, _, _, _, _, _, _, _, _, _, rfl, (show IntsAt _ a n k b o d.I.cells from (by repeat (first | fail | (with_reducible exact x0) | (with_reducible refine IntsAt.alloc ?_ _) | (with_reducible refine IntsAt.drewN ?_ _) | (with_reducible refine IntsAt.drew ?_) | (with_reducible refine IntsAt.set ?_ ?_ _; rotate_left 1; (intro h0; first | (dsimp only; omega) | omega | (simp; omega) | simp)) | exact x0))), (show IntsAt _ a' n' k' b' o' d.W.cells from (by repeat (first | fail | (with_reducible exact x1) | (with_reducible refine IntsAt.alloc ?_ _) | (with_reducible refine IntsAt.drewN ?_ _) | (with_reducible refine IntsAt.drew ?_) | (with_reducible refine IntsAt.set ?_ ?_ _; rotate_left 1; (intro h0; first | (dsimp only; omega) | omega | (simp; omega) | simp)) | exact x1)))⟩).mono ?_
    rw [HE.out]
    rintro e w3 ⟨u3, rfl, hb3, -, -⟩
    go_wp2
    go_ret
    exact ⟨rfl, (by repeat (first | fail | (with_reducible exact Below.refl _ _) | (with_reducible refine Below.al ?_ _) | (with_reducible refine Below.drN ?_ _) | (with_reducible refine Below.drew ?_) | (with_reducible refine Below.st ?_ ?_ _; rotate_left 1; (first | (dsimp only; omega) | omega | (simp; omega) | simp)) | (with_reducible refine Below.go ?_ hb3) | (with_reducible refine Below.go ?_ hb1) | exact Below.refl _ _))⟩

theorem own : ownKnob Try.prog.godebug = none := by kernel_rfl
theorem laidOut : laidOutB Try.prog = true := by kernel_rfl
set_option maxRecDepth 100000 in
theorem lifted (os : Os) (started : os.Started) (H : Type) (enc : TypeId × Value → H) :
    ReturnsInHanded {} Try.checked os 4 .any (Rows.batchBackSpec.pre6 enc Try.prog Try.f4 Rows.batchBackRow.domain false) (Rows.batchBackSpec.post enc Try.prog Try.f4 false true false false) := by
  refine returnsInHanded_of_change (C := Try.checked) own started (by kernel_rfl) Try.func4
    (ChangeSpec.witness6 (enc := enc) (C := Try.checked) false ⟨#[], #[.agg #[.int .i64 0, .int .i64 0, .slice none 0 0, .int .i64 0, .int .i64 0, .slice none 0 0], .int .i64 0], []⟩ 8 (by kernel_rfl) (by kernel_rfl) (by kernel_rfl) (by kernel_rfl)) ?_
  intro W base args ds gs before hval0 hW hcnd hsz
  have hval : ∀ (j : Nat) t v, Try.f4.params[j]? = some t → args[j]? = some v → Value.okWide Try.prog W .any base t v := hval0
  have hW' := hW
  obtain ⟨p, q, hA0, hV, rfl, hfz, hnd⟩ := hW
  have hA : DataW.TrodAll enc Try.prog W 0 (fun _ => true) true Try.f4.params.toList args.toList ds p := hA0
  rw [Try.params4] at hA hval
  obtain ⟨v0, vs0, d0, ds0, p0, q0, hargs, rfl, rfl, h0, r0⟩ := trodAll_cons hA
  obtain ⟨v1, vs1, d1, ds1, p1, q1, rfl, rfl, rfl, h1, r1⟩ := trodAll_cons r0
  obtain ⟨rfl, rfl, rfl⟩ := trodAll_nil r1
  obtain rfl : args = #[v0, v1] := by cases args; simp_all
  obtain ⟨rfl, rfl⟩ := trodVars_none hV
  have k0 := h0
  have lt0 : ∀ x ∈ p0, x.block < W.heap.size := by obtain ⟨m, hm⟩ := k0; exact DataW.trod_lt m _ _ _ hm
  have k1 := h1
  have lt1 : ∀ x ∈ p1, x.block < W.heap.size := by obtain ⟨m, hm⟩ := k1; exact DataW.trod_lt m _ _ _ hm
  obtain ⟨a0, w0⟩ := open_Batch (hval 0 42 v0 rfl rfl) h0
  obtain ⟨a1, rfl, rfl, rfl, w1⟩ := open_int Try.underlying3 (hval 1 3 v1 rfl rfl) h1
  clear hA0 hval0
  refine (walk a0 v0 a1 W w0 w1).mono fun e W' ⟨he, bel⟩ => ?_
  subst he
  exact ⟨_, rfl, _, _, _, [], _, [], hW', trodAll_mk1 (shut_bool Try.underlying4 _), (trodAll_cons_mk (Below.trod laidOut (by kernel_rfl) (of_decide_eq_true (by kernel_rfl)) k0 bel lt0) (trodAll_cons_mk (Below.trod laidOut (by kernel_rfl) (of_decide_eq_true (by kernel_rfl)) k1 bel lt1) trodAll_mk0)), rfl, bel.frame _, fun h => by cases h⟩

theorem proved : Rows.BatchBackSaid :=
  OpenClaim.holds_of_wide 4 Try.f4 rfl rfl rfl rfl rfl rfl rfl ⟨rfl, rfl, rfl, rfl, rfl⟩ rfl rfl rfl rfl rfl (by kernel_rfl) Try.func4 (by kernel_rfl)
    (of_decide_eq_true (by kernel_rfl)) (by unfold Func.isWrapper; first | (rw [if_pos (by decide +kernel)]; kernel_rfl) | (rw [if_neg (by decide +kernel)]; exact ⟨rfl, rfl⟩))
    (fun os started H enc _ => lifted os started H enc)
#print axioms proved

end Go.Proofs.Ytikcdjibflleeaa.lawBatchBack
