/- NetGathers: any two lists of what is to be turned are gathered as the document says, or what is wrong is told; and any net's noughts are noughts of its shapes: the law returns true, and the input reads as it did. No condition. -/
import Derived.Test.YtikcdjibflleeaaDoorCards
import Derived.Test.YtikcdjibflleeaaDoorTie
import Derived.Test.YtikcdjibflleeaaDoorSized
import Derived.Test.YtikcdjibflleeaaDoorRGath
import Derived.Test.YtikcdjibflleeaaDoorTold
import Derived.Test.YtikcdjibflleeaaDoorZero1
import Derived.Deep.DeepHandedRow
import Derived.Deep.CutBlock
import Derived.Deep.DeepCutAuto
import Derived.Deep.RegionHeld3
set_option linter.unusedVariables false
set_option linter.unusedSimpArgs false
set_option linter.unusedSectionVars false
namespace Gal
open Go Go.RowKit
theorem cells3c {w : World} {b i : Nat} {x y z : Value} (h : Cells3 w b i x y z) : w.cell? ⟨b, i, none⟩ = some x ∧ w.cell? ⟨b, i + 1, none⟩ = some y ∧ w.cell? ⟨b, i + 2, none⟩ = some z := ⟨h.c0, h.c1, h.c2⟩
theorem cells3b {w : World} {b c i : Nat} {x y z x' y' z' : Value} {t : TypeId} (h : Cells3 w b i x y z) (k : Box w c [x', y', z'] t) : w.cell? ⟨b, i, none⟩ = some x ∧ w.cell? ⟨b, i + 1, none⟩ = some y ∧ w.cell? ⟨b, i + 2, none⟩ = some z ∧ w.cell? ⟨c, 0, none⟩ = some x' ∧ w.cell? ⟨c, 1, none⟩ = some y' ∧ w.cell? ⟨c, 2, none⟩ = some z' := ⟨h.c0, h.c1, h.c2, k.cell 0, k.cell 1, k.cell 2⟩
end Gal
namespace Go.Proofs.YtikcdjibflleeaaDoor.lawNetGathers
open Go.ChangeShapes Go.WideShapes Go.ChangeAt Go.RowKit Gal
set_option maxRecDepth 100000
set_option maxHeartbeats 4000000
theorem zeros_ints {w : World} {b n : Nat} {t : TypeId} (h : Box w b ((zeros n).map (Value.int .i64)) t) (hn : n ≤ maxLen) : IntsAt w (some ⟨b, 0, none⟩) n n b 0 (zeros n) := zeros_box h hn
theorem made_zeros (n : Nat) : (madeCells (Value.int .i64 0).cells n) = ((zeros n).map (Value.int .i64)).toArray := by
  apply Array.toList_inj.1
  show (madeCells #[Value.int .i64 0] n).toList = _
  rw [toList_madeCells_one]
  simp [zeros]
theorem gathered (ds es : List Grd) (u : Value) (w : World) (n0 : Nat) {P : Prop}
    (h0 : gatherFault ds es = 0 → ∃ a k b, u = .slice a n0 k ∧ RowAt Form.grd w anyB a n0 k b 0 (gatherTo ds es n0)) (h1 : gatherFault ds es ≠ 0 → u = .slice none 0 0) :
    ∃ a n k b, u = .slice a n k ∧ RowAt Form.grd w anyB a n k b 0 (if gatherFault ds es = 0 then gatherTo ds es n0 else []) := by
  by_cases h : gatherFault ds es = 0
  · obtain ⟨a, k, b, e, r⟩ := h0 h
    rw [if_pos h]
    exact ⟨a, n0, k, b, e, r⟩
  · rw [if_neg h]
    exact ⟨none, 0, 0, 0, h1 h, RowAt.nil _ _ _⟩
theorem walk (ls : List Lay) (v0 : Value) (ds : List Grd) (v1 : Value) (es : List Grd) (v2 : Value) (w : World) (h0 : NetIn w v0 ls) (h1 : GrdsIn w v1 ds) (h2 : GrdsIn w v2 es) (hh : Handle w) :
    Calls Tryd.prog 4 #[v0, v1, v2] w fun e w' => e = .returned (.bool true) ∧ Below w.heap.size w w' := by
  obtain ⟨⟨a, n, k, b, o, rfl, r0⟩, hr0, hws⟩ := h0
  obtain ⟨⟨a1, n1, k1, b1, o1, rfl, r1⟩, hr1⟩ := h1
  obtain ⟨⟨a2, n2, k2, b2, o2, rfl, r2⟩, hr2⟩ := h2
  have HWS := Lib.hid hws
  have HL0 := Lib.hid r0.len
  have hm0 := r0.max
  unfold maxLen at hm0
  have HS0 : Hid (n * 88 ≤ reachBytes) := Lib.hid (by rw [← r0.len]; exact hr0)
  have HS1 : Hid (n1 * 80 ≤ reachBytes) := Lib.hid (by rw [← r1.len]; exact hr1)
  clear hws hr0 hr1 hr2
  obtain ⟨i0, hi, hz0, hz1, hz2⟩ := info_parts info_int
  go_enter Tryd.func4, Tryd.ntmps4
  go_wp2_with fail
  refine (gather_any ds es anyB anyB a1 a2 n1 n2 k1 k2 b1 b2 o1 o2 _ r1 r2 (by have := HS1.out; unfold reachBytes at this; omega)).mono ?_
  rintro e w1 ⟨u, rfl, hb1, g0, g1⟩
  obtain ⟨ua, un, uk, ub, rfl, ru⟩ := gathered ds es u _ n1 (P := True) (fun h => by obtain ⟨a, k, b, e, r⟩ := g0 h; exact ⟨a, k, b, e, r.wide (fun _ _ _ => trivial)⟩) g1
  clear g0 g1
  have hkw1 : Below w.heap.size w w1 := (by repeat (first | fail | (with_reducible exact Below.refl _ _) | (with_reducible refine Below.al ?_ _) | (with_reducible refine Below.drN ?_ _) | (with_reducible refine Below.drew ?_) | (with_reducible refine Below.st ?_ ?_ _; rotate_left 1; (first | (dsimp only; omega) | omega | (simp; omega) | simp)) | (with_reducible refine Below.go ?_ hb1) | exact Below.refl _ _))
  replace r0 := r0.keep hkw1
  replace r1 := r1.keep hkw1
  replace r2 := r2.keep hkw1
  replace hh := hh.keep hkw1
  have hsw1 := hkw1.size
  go_wp2_with fail
  refine (refGather_any ds es anyB anyB a1 a2 n1 n2 k1 k2 b1 b2 o1 o2 _ r1 r2 (by have := HS1.out; unfold reachBytes at this; omega)).mono ?_
  rintro e w2 ⟨q, rfl, hb2, g0, g1⟩
  obtain ⟨qa, qn, qk, qb, rfl, rq⟩ := gathered ds es q _ n1 (P := True) (fun h => by obtain ⟨a, k, b, e, r⟩ := g0 h; exact ⟨a, k, b, e, r.wide (fun _ _ _ => trivial)⟩) g1
  clear g0 g1
  have hkw2 : Below w1.heap.size w1 w2 := (by repeat (first | fail | (with_reducible exact Below.refl _ _) | (with_reducible refine Below.al ?_ _) | (with_reducible refine Below.drN ?_ _) | (with_reducible refine Below.drew ?_) | (with_reducible refine Below.st ?_ ?_ _; rotate_left 1; (first | (dsimp only; omega) | omega | (simp; omega) | simp)) | (with_reducible refine Below.go ?_ hb2) | exact Below.refl _ _))
  replace r0 := r0.keep hkw2
  replace ru := ru.keep hkw2
  replace hh := hh.keep hkw2
  have hsw2 := hkw2.size
  go_wp2_with fail
  refine (error_same _ _ hh).mono ?_
  rintro e w3 ⟨rfl, hb3⟩
  have hkw3 : Below w2.heap.size w2 w3 := (by repeat (first | fail | (with_reducible exact Below.refl _ _) | (with_reducible refine Below.al ?_ _) | (with_reducible refine Below.drN ?_ _) | (with_reducible refine Below.drew ?_) | (with_reducible refine Below.st ?_ ?_ _; rotate_left 1; (first | (dsimp only; omega) | omega | (simp; omega) | simp)) | (with_reducible refine Below.go ?_ hb3) | exact Below.refl _ _))
  replace r0 := r0.keep hkw3
  replace ru := ru.keep hkw3
  replace rq := rq.keep hkw3
  have hsw3 := hkw3.size
  go_wp2_with fail
  refine (grads_same _ _ _ _ _ _ _ _ _ _ _ _ _ _ ru rq).mono ?_
  rintro e w4 ⟨rfl, hb4⟩
  have hkw4 : Below w3.heap.size w3 w4 := (by repeat (first | fail | (with_reducible exact Below.refl _ _) | (with_reducible refine Below.al ?_ _) | (with_reducible refine Below.drN ?_ _) | (with_reducible refine Below.drew ?_) | (with_reducible refine Below.st ?_ ?_ _; rotate_left 1; (first | (dsimp only; omega) | omega | (simp; omega) | simp)) | (with_reducible refine Below.go ?_ hb4) | exact Below.refl _ _))
  replace r0 := r0.keep hkw4
  have hsw4 := hkw4.size
  clear ru rq
  go_wp2_with fail
  refine (netZero_any ls anyB a n k b o _ r0 (fun i hi => by have h := HWS.out i _ (by rw [List.getElem?_eq_getElem (by rw [HL0.out]; exact hi)]); have e : ls[i]'(by rw [HL0.out]; exact hi) = lx ls i := (by unfold lx; rw [List.getElem?_eq_getElem (by rw [HL0.out]; exact hi)]; rfl); rw [e] at h; obtain ⟨h1, h2⟩ := h; unfold Mat.within reachBytes at h1 h2; exact ⟨by omega, by omega⟩) (by have := HS0.out; unfold reachBytes at this; omega)).mono ?_
  rintro e w5 ⟨za, zk, zb, rfl, hb5, rz⟩
  have hkw5 : Below w4.heap.size w4 w5 := (by repeat (first | fail | (with_reducible exact Below.refl _ _) | (with_reducible refine Below.al ?_ _) | (with_reducible refine Below.drN ?_ _) | (with_reducible refine Below.drew ?_) | (with_reducible refine Below.st ?_ ?_ _; rotate_left 1; (first | (dsimp only; omega) | omega | (simp; omega) | simp)) | (with_reducible refine Below.go ?_ hb5) | exact Below.refl _ _))
  replace r0 := r0.keep hkw5
  have hsw5 := hkw5.size
  have hbz : Below w.heap.size w w5 := (by repeat (first | fail | (with_reducible exact Below.refl _ _) | (with_reducible refine Below.al ?_ _) | (with_reducible refine Below.drN ?_ _) | (with_reducible refine Below.drew ?_) | (with_reducible refine Below.st ?_ ?_ _; rotate_left 1; (first | (dsimp only; omega) | omega | (simp; omega) | simp)) | (with_reducible refine Below.go ?_ hb5) | (with_reducible refine Below.go ?_ hb4) | (with_reducible refine Below.go ?_ hb3) | (with_reducible refine Below.go ?_ hb2) | (with_reducible refine Below.go ?_ hb1) | exact Below.refl _ _))
  have hne : ((n : Int) != (n : Int)) = false := by simp
  have HZL : Hid ((zeroNet ls).length = n) := Lib.hid (by rw [zeroNet_length]; exact HL0.out)
  go_wp2_with fail
  go_loopw [14] (fun i wr => ∃ t : Nat, t ≤ n ∧ i = .int .i64 t ∧ Below w5.heap.size w5 wr) (fun i _ => n - (intOf i).toNat)
  case atStart => exact ⟨0, Nat.zero_le _, rfl, Below.refl _ _⟩
  case round =>
    obtain ⟨t, ht, rfl, hbr⟩ := hrel
    by_cases hlt : t < n
    · have hltI : (t : Int) < (n : Int) := by omega
      obtain rfl := r0.ptr (by omega)
      obtain rfl := rz.ptr (by omega)
      obtain ⟨aW, nW, kW, bW, oW, aB, nB, kB, bB, oB, c0, c1, c2, c3, c4, c5, c6, x4, x5⟩ := lay_cells (r0.keep hbr) hlt
      obtain ⟨pWx1, pWx2, pWx3, pWx4, pWx5, pBx1, pBx2, pBx3, pBx4, pBx5, e0, e1, e2, e3, e4, e5, yW, yB⟩ := grd_cells (rz.keep hbr) (gx_get (by rw [HZL.out]; exact hlt))
      rw [zeroNet_gx] at e0 e1 e3 e4 yW yB
      have hwn : Lay.within (lx ls t) := HWS.out t _ (by unfold lx; rw [List.getElem?_eq_getElem (by rw [HL0.out]; exact hlt)]; rfl)
      obtain ⟨L, hL⟩ : ∃ L, L = lx ls t := ⟨_, rfl⟩
      rw [← hL] at c0 c1 c2 c4 c5 x4 x5 e0 e1 e3 e4 yW yB hwn
      clear hL
      obtain ⟨hwn1, hwn2⟩ := hwn
      unfold Mat.within reachBytes at hwn1 hwn2
      rw [x4.len] at hwn1
      rw [x5.len] at hwn2
      have hZW : zeroMat L.W = ⟨L.W.rows, L.W.cols, zeros nW⟩ := by unfold zeroMat; rw [x4.len]
      have hZB : zeroMat L.B = ⟨L.B.rows, L.B.cols, zeros nB⟩ := by unfold zeroMat; rw [x5.len]
      unfold zeroGrd at e0 e1 e3 e4 yW yB
      dsimp only at e0 e1 e3 e4 yW yB
      rw [hZW] at e0 e1 yW
      rw [hZB] at e3 e4 yB
      dsimp only at e0 e1 e3 e4 yW yB
      clear hZW hZB x4 x5 c0
      have CW : Cells3 wr b (o + t * 7 + 1) _ _ _ := ⟨c1, c2, c3⟩
      have CB : Cells3 wr b (o + t * 7 + 4) _ _ _ := ⟨c4, c5, c6⟩
      have DW : Cells3 wr zb (0 + t * 6) _ _ _ := ⟨e0, e1, e2⟩
      have DB : Cells3 wr zb (0 + t * 6 + 3) _ _ _ := ⟨e3, e4, e5⟩
      rw [Nat.zero_add] at DW DB
      clear c1 c2 c3 c4 c5 c6 e0 e1 e2 e3 e4 e5
      have hlb : b < wr.heap.size := (r0.keep hbr).lt (by omega)
      have hlz : zb < wr.heap.size := (rz.keep hbr).lt (by omega)
      have hmkW := fun W => run_make_rowN (P := Tryd.prog) 23 3 i0 _ Tryd.underlying23 hi hz0 .i64 .i64 nW nW (nW : Int) (nW : Int) rfl rfl (Nat.le_refl _) (by rw [hz2]; omega) (by omega) W
      rw [hz1, Nat.mul_one, made_zeros] at hmkW
      have hmkB := fun W => run_make_rowN (P := Tryd.prog) 23 3 i0 _ Tryd.underlying23 hi hz0 .i64 .i64 nB nB (nB : Int) (nB : Int) rfl rfl (Nat.le_refl _) (by rw [hz2]; omega) (by omega) W
      rw [hz1, Nat.mul_one, made_zeros] at hmkB
      have HMW : Hid (nW ≤ maxLen) := Lib.hid (by unfold maxLen; omega)
      have HMB : Hid (nB ≤ maxLen) := Lib.hid (by unfold maxLen; omega)
      clear r0 rz hwn1 hwn2
      go_upto_region 13 with (fail)
      go_cut [15] (fun s1 wx => ∃ p b', s1 = .pointer (some ⟨p, 0, none⟩) ∧ Box wx p [.int .i64 L.W.rows, .int .i64 L.W.cols, .slice (some ⟨b', 0, none⟩) nW nW] 25 ∧ Box wx b' ((zeros nW).map (Value.int .i64)) 3 ∧ Below wr.heap.size wr wx)
      case first =>
        have hmk := hmkW
        clear hmkW
        go_region_held3 (fun w' => w'.cell? ⟨b, o + t * 7 + 1, none⟩ = some (.int .i64 L.W.rows) ∧ w'.cell? ⟨b, o + t * 7 + 2, none⟩ = some (.int .i64 L.W.cols) ∧ w'.cell? ⟨b, o + t * 7 + 3, none⟩ = some (.slice aW nW kW)) (exact cells3c (by repeat (first | fail | (with_reducible exact CW) | (with_reducible refine Cells3.alloc ?_ _) | (with_reducible refine Cells3.drewN ?_ _) | (with_reducible refine Cells3.drew ?_) | (with_reducible refine Cells3.far ?_ ?_ _; rotate_left 1; (first | (dsimp only; omega) | omega | (simp; omega) | simp)) | exact CW))) (fail)
        all_goals (
          go_wp2_with fail
          go_meet
          (first | refine ⟨wr.heap.size + 1, wr.heap.size, rfl, ?_, ?_, ?_⟩ | refine ⟨wr.heap.size, wr.heap.size + 1, rfl, ?_, ?_, ?_⟩)
          · exact (by repeat (first | fail | (with_reducible refine (Box.new' _ _ _ _ ?_); (simp; done)) | (with_reducible refine Box.alloc ?_ _) | (with_reducible refine Box.drewN ?_ _) | (with_reducible refine Box.drew ?_) | (with_reducible refine Box.far ?_ ?_ _; rotate_left 1; (first | (dsimp only; omega) | omega | (simp; omega) | simp))))
          · exact (by repeat (first | fail | (with_reducible refine (Box.new' _ _ _ _ ?_); (simp; done)) | (with_reducible refine Box.alloc ?_ _) | (with_reducible refine Box.drewN ?_ _) | (with_reducible refine Box.drew ?_) | (with_reducible refine Box.far ?_ ?_ _; rotate_left 1; (first | (dsimp only; omega) | omega | (simp; omega) | simp))))
          · exact (by repeat (first | fail | (with_reducible exact Below.refl _ _) | (with_reducible refine Below.al ?_ _) | (with_reducible refine Below.drN ?_ _) | (with_reducible refine Below.drew ?_) | (with_reducible refine Below.st ?_ ?_ _; rotate_left 1; (first | (dsimp only; omega) | omega | (simp; omega) | simp)) | exact Below.refl _ _)))
      case rest =>
      obtain ⟨pA, bA, rfl, QA, ZA, hcA⟩ := hcut
      obtain ⟨wA, rfl⟩ : ∃ wA, wA = wc := ⟨_, rfl⟩
      have hzA := hcA.size
      replace CB := CB.keep hcA
      replace DW := DW.keep hcA
      replace DB := DB.keep hcA
      replace yW := yW.keep hcA
      replace yB := yB.keep hcA
      have QA := QA
      have QAc := QA.cell
      have QAf := QA.thawed
      have QAz := QA.lt
      have QAk := lt_add QAz
      have hbA : Below w5.heap.size w5 wA := (by repeat (first | fail | (with_reducible exact Below.refl _ _) | (with_reducible exact hbr) | (with_reducible refine Below.al ?_ _) | (with_reducible refine Below.drN ?_ _) | (with_reducible refine Below.drew ?_) | (with_reducible refine Below.st ?_ ?_ _; rotate_left 1; (first | (dsimp only; omega) | omega | (simp; omega) | simp)) | (with_reducible refine Below.go ?_ hcA) | exact Below.refl _ _ | exact hbr))
      clear CW hcA hmkW hbr
      go_upto_region 14 with (fail)
      go_cut [16] (fun s1 wx => ∃ p b', s1 = .pointer (some ⟨p, 0, none⟩) ∧ Box wx p [.int .i64 L.B.rows, .int .i64 L.B.cols, .slice (some ⟨b', 0, none⟩) nB nB] 25 ∧ Box wx b' ((zeros nB).map (Value.int .i64)) 3 ∧ Below wA.heap.size wA wx)
      case first =>
        have hmk := hmkB
        clear hmkB
        go_region_held3 (fun w' => w'.cell? ⟨b, o + t * 7 + 4, none⟩ = some (.int .i64 L.B.rows) ∧ w'.cell? ⟨b, o + t * 7 + 5, none⟩ = some (.int .i64 L.B.cols) ∧ w'.cell? ⟨b, o + t * 7 + 6, none⟩ = some (.slice aB nB kB)) (exact cells3c (by repeat (first | fail | (with_reducible exact CB) | (with_reducible refine Cells3.alloc ?_ _) | (with_reducible refine Cells3.drewN ?_ _) | (with_reducible refine Cells3.drew ?_) | (with_reducible refine Cells3.far ?_ ?_ _; rotate_left 1; (first | (dsimp only; omega) | omega | (simp; omega) | simp)) | exact CB))) (fail)
        all_goals (
          go_wp2_with fail
          go_meet
          (first | refine ⟨wA.heap.size + 1, wA.heap.size, rfl, ?_, ?_, ?_⟩ | refine ⟨wA.heap.size, wA.heap.size + 1, rfl, ?_, ?_, ?_⟩)
          · exact (by repeat (first | fail | (with_reducible refine (Box.new' _ _ _ _ ?_); (simp; done)) | (with_reducible refine Box.alloc ?_ _) | (with_reducible refine Box.drewN ?_ _) | (with_reducible refine Box.drew ?_) | (with_reducible refine Box.far ?_ ?_ _; rotate_left 1; (first | (dsimp only; omega) | omega | (simp; omega) | simp))))
          · exact (by repeat (first | fail | (with_reducible refine (Box.new' _ _ _ _ ?_); (simp; done)) | (with_reducible refine Box.alloc ?_ _) | (with_reducible refine Box.drewN ?_ _) | (with_reducible refine Box.drew ?_) | (with_reducible refine Box.far ?_ ?_ _; rotate_left 1; (first | (dsimp only; omega) | omega | (simp; omega) | simp))))
          · exact (by repeat (first | fail | (with_reducible exact Below.refl _ _) | (with_reducible refine Below.al ?_ _) | (with_reducible refine Below.drN ?_ _) | (with_reducible refine Below.drew ?_) | (with_reducible refine Below.st ?_ ?_ _; rotate_left 1; (first | (dsimp only; omega) | omega | (simp; omega) | simp)) | exact Below.refl _ _)))
      case rest =>
      obtain ⟨pB, bB', rfl, QB, ZB, hcB⟩ := hcut
      obtain ⟨wB, rfl⟩ : ∃ wB, wB = wc := ⟨_, rfl⟩
      have hzB := hcB.size
      have hkwB : Below wA.heap.size wA wB := (by repeat (first | fail | (with_reducible exact Below.refl _ _) | (with_reducible refine Below.al ?_ _) | (with_reducible refine Below.drN ?_ _) | (with_reducible refine Below.drew ?_) | (with_reducible refine Below.st ?_ ?_ _; rotate_left 1; (first | (dsimp only; omega) | omega | (simp; omega) | simp)) | (with_reducible refine Below.go ?_ hcB) | exact Below.refl _ _))
      replace QA := QA.keep hkwB
      replace QAc := QA.cell
      replace QAf := QA.thawed
      replace QAz := QA.lt
      replace QAk := lt_add QAz
      replace DW := DW.keep hkwB
      replace DB := DB.keep hkwB
      replace yW := yW.keep hkwB
      replace yB := yB.keep hkwB
      replace ZA := ZA.keep hkwB
      have QB := QB
      have QBc := QB.cell
      have QBf := QB.thawed
      have QBz := QB.lt
      have QBk := lt_add QBz
      have hbB : Below w5.heap.size w5 wB := (by repeat (first | fail | (with_reducible exact Below.refl _ _) | (with_reducible exact hbA) | (with_reducible refine Below.al ?_ _) | (with_reducible refine Below.drN ?_ _) | (with_reducible refine Below.drew ?_) | (with_reducible refine Below.st ?_ ?_ _; rotate_left 1; (first | (dsimp only; omega) | omega | (simp; omega) | simp)) | (with_reducible refine Below.go ?_ hcB) | exact Below.refl _ _ | exact hbA))
      have xA := zeros_ints ZA HMW.out
      have xB := zeros_ints ZB HMB.out
      have hlz2 : zb < wB.heap.size := by omega
      clear CB hcB hbA ZA ZB hmkB
      go_upto_region 15 with (fail)
      go_region_held3 (fun w' => w'.cell? ⟨zb, t * 6, none⟩ = some (.int .i64 L.W.rows) ∧ w'.cell? ⟨zb, t * 6 + 1, none⟩ = some (.int .i64 L.W.cols) ∧ w'.cell? ⟨zb, t * 6 + 2, none⟩ = some (.slice pWx1 pWx2 pWx3) ∧ w'.cell? ⟨pA, 0, none⟩ = some (.int .i64 L.W.rows) ∧ w'.cell? ⟨pA, 1, none⟩ = some (.int .i64 L.W.cols) ∧ w'.cell? ⟨pA, 2, none⟩ = some (.slice (some ⟨bA, 0, none⟩) nW nW)) (exact cells3b (t := 25) (by repeat (first | fail | (with_reducible exact DW) | (with_reducible refine Cells3.alloc ?_ _) | (with_reducible refine Cells3.drewN ?_ _) | (with_reducible refine Cells3.drew ?_) | (with_reducible refine Cells3.far ?_ ?_ _; rotate_left 1; (first | (dsimp only; omega) | omega | (simp; omega) | simp)) | (with_reducible refine Cells3.keep ?_ hb6) | exact DW)) (by repeat (first | fail | (with_reducible exact QA) | (with_reducible refine Box.alloc ?_ _) | (with_reducible refine Box.drewN ?_ _) | (with_reducible refine Box.drew ?_) | (with_reducible refine Box.far ?_ ?_ _; rotate_left 1; (first | (dsimp only; omega) | omega | (simp; omega) | simp)) | (with_reducible refine Box.keep ?_ hb6) | exact QA))) ((go_at_call 11; go_must (refine (matrices_same ⟨L.W.rows, L.W.cols, zeros nW⟩ _ _ _ (MatAt.mk (show IntsAt _ pWx1 pWx2 pWx3 pWx4 pWx5 (zeros nW) from (by repeat (first | fail | (with_reducible exact yW) | (with_reducible refine IntsAt.alloc ?_ _) | (with_reducible refine IntsAt.drewN ?_ _) | (with_reducible refine IntsAt.drew ?_) | (with_reducible refine IntsAt.set ?_ ?_ _; rotate_left 1; (intro h0; first | (dsimp only; omega) | omega | (simp; omega) | simp)) | exact yW)))) (MatAt.mk (show IntsAt _ (some ⟨bA, 0, none⟩) nW nW bA 0 (zeros nW) from (by repeat (first | fail | (with_reducible exact xA) | (with_reducible refine IntsAt.alloc ?_ _) | (with_reducible refine IntsAt.drewN ?_ _) | (with_reducible refine IntsAt.drew ?_) | (with_reducible refine IntsAt.set ?_ ?_ _; rotate_left 1; (intro h0; first | (dsimp only; omega) | omega | (simp; omega) | simp)) | exact xA))))).mono ?_); go_must (rintro e w6 ⟨rfl, hb6⟩)))
      have DB6 : Cells3 w6 zb (t * 6 + 3) (.int .i64 L.B.rows) (.int .i64 L.B.cols) (.slice pBx1 pBx2 pBx3) := (by repeat (first | fail | (with_reducible exact DB) | (with_reducible refine Cells3.alloc ?_ _) | (with_reducible refine Cells3.drewN ?_ _) | (with_reducible refine Cells3.drew ?_) | (with_reducible refine Cells3.far ?_ ?_ _; rotate_left 1; (first | (dsimp only; omega) | omega | (simp; omega) | simp)) | (with_reducible refine Cells3.keep ?_ hb6) | exact DB))
      have QB6 : Box w6 pB [.int .i64 L.B.rows, .int .i64 L.B.cols, .slice (some ⟨bB', 0, none⟩) nB nB] 25 := (by repeat (first | fail | (with_reducible exact QB) | (with_reducible refine Box.alloc ?_ _) | (with_reducible refine Box.drewN ?_ _) | (with_reducible refine Box.drew ?_) | (with_reducible refine Box.far ?_ ?_ _; rotate_left 1; (first | (dsimp only; omega) | omega | (simp; omega) | simp)) | (with_reducible refine Box.keep ?_ hb6) | exact QB))
      have yB6 : IntsAt w6 pBx1 pBx2 pBx3 pBx4 pBx5 (zeros nB) := (by repeat (first | fail | (with_reducible exact yB) | (with_reducible refine IntsAt.alloc ?_ _) | (with_reducible refine IntsAt.drewN ?_ _) | (with_reducible refine IntsAt.drew ?_) | (with_reducible refine IntsAt.set ?_ ?_ _; rotate_left 1; (intro h0; first | (dsimp only; omega) | omega | (simp; omega) | simp)) | (with_reducible refine IntsAt.keep ?_ hb6) | exact yB))
      have xB6 : IntsAt w6 (some ⟨bB', 0, none⟩) nB nB bB' 0 (zeros nB) := (by repeat (first | fail | (with_reducible exact xB) | (with_reducible refine IntsAt.alloc ?_ _) | (with_reducible refine IntsAt.drewN ?_ _) | (with_reducible refine IntsAt.drew ?_) | (with_reducible refine IntsAt.set ?_ ?_ _; rotate_left 1; (intro h0; first | (dsimp only; omega) | omega | (simp; omega) | simp)) | (with_reducible refine IntsAt.keep ?_ hb6) | exact xB))
      have hb6' : Below w5.heap.size w5 w6 := (by repeat (first | fail | (with_reducible exact Below.refl _ _) | (with_reducible exact hbB) | (with_reducible refine Below.al ?_ _) | (with_reducible refine Below.drN ?_ _) | (with_reducible refine Below.drew ?_) | (with_reducible refine Below.st ?_ ?_ _; rotate_left 1; (first | (dsimp only; omega) | omega | (simp; omega) | simp)) | (with_reducible refine Below.go ?_ hb6) | exact Below.refl _ _ | exact hbB))
      have hlz3 : zb < w6.heap.size := World.block_lt_of_cell? _ _ DB6.c0
      have QB := QB6
      have QBc := QB.cell
      have QBf := QB.thawed
      have QBz := QB.lt
      have QBk := lt_add QBz
      clear hb6 QA QAc QAf QAz QAk DW yW xA DB QB6 yB xB hbB
      go_upto_region 16 with (fail)
      go_region_held3 (fun w' => w'.cell? ⟨zb, t * 6 + 3, none⟩ = some (.int .i64 L.B.rows) ∧ w'.cell? ⟨zb, t * 6 + 4, none⟩ = some (.int .i64 L.B.cols) ∧ w'.cell? ⟨zb, t * 6 + 5, none⟩ = some (.slice pBx1 pBx2 pBx3) ∧ w'.cell? ⟨pB, 0, none⟩ = some (.int .i64 L.B.rows) ∧ w'.cell? ⟨pB, 1, none⟩ = some (.int .i64 L.B.cols) ∧ w'.cell? ⟨pB, 2, none⟩ = some (.slice (some ⟨bB', 0, none⟩) nB nB)) (exact cells3b (t := 25) (by repeat (first | fail | (with_reducible exact DB6) | (with_reducible refine Cells3.alloc ?_ _) | (with_reducible refine Cells3.drewN ?_ _) | (with_reducible refine Cells3.drew ?_) | (with_reducible refine Cells3.far ?_ ?_ _; rotate_left 1; (first | (dsimp only; omega) | omega | (simp; omega) | simp)) | (with_reducible refine Cells3.keep ?_ hb7) | exact DB6)) (by repeat (first | fail | (with_reducible exact QB) | (with_reducible refine Box.alloc ?_ _) | (with_reducible refine Box.drewN ?_ _) | (with_reducible refine Box.drew ?_) | (with_reducible refine Box.far ?_ ?_ _; rotate_left 1; (first | (dsimp only; omega) | omega | (simp; omega) | simp)) | (with_reducible refine Box.keep ?_ hb7) | exact QB))) ((go_at_call 11; go_must (refine (matrices_same ⟨L.B.rows, L.B.cols, zeros nB⟩ _ _ _ (MatAt.mk (show IntsAt _ pBx1 pBx2 pBx3 pBx4 pBx5 (zeros nB) from (by repeat (first | fail | (with_reducible exact yB6) | (with_reducible refine IntsAt.alloc ?_ _) | (with_reducible refine IntsAt.drewN ?_ _) | (with_reducible refine IntsAt.drew ?_) | (with_reducible refine IntsAt.set ?_ ?_ _; rotate_left 1; (intro h0; first | (dsimp only; omega) | omega | (simp; omega) | simp)) | exact yB6)))) (MatAt.mk (show IntsAt _ (some ⟨bB', 0, none⟩) nB nB bB' 0 (zeros nB) from (by repeat (first | fail | (with_reducible exact xB6) | (with_reducible refine IntsAt.alloc ?_ _) | (with_reducible refine IntsAt.drewN ?_ _) | (with_reducible refine IntsAt.drew ?_) | (with_reducible refine IntsAt.set ?_ ?_ _; rotate_left 1; (intro h0; first | (dsimp only; omega) | omega | (simp; omega) | simp)) | exact xB6))))).mono ?_); go_must (rintro e w7 ⟨rfl, hb7⟩)))
      have hb7' : Below w5.heap.size w5 w7 := (by repeat (first | fail | (with_reducible exact Below.refl _ _) | (with_reducible exact hb6') | (with_reducible refine Below.al ?_ _) | (with_reducible refine Below.drN ?_ _) | (with_reducible refine Below.drew ?_) | (with_reducible refine Below.st ?_ ?_ _; rotate_left 1; (first | (dsimp only; omega) | omega | (simp; omega) | simp)) | (with_reducible refine Below.go ?_ hb7) | exact Below.refl _ _ | exact hb6'))
      go_wp2_with fail
      go_roundw
      case rel => exact ⟨t + 1, by omega, by go_num, hb7'⟩
      case measure => simp [intOf]; omega
    · have hbe : Below w.heap.size w wr := (by repeat (first | fail | (with_reducible exact Below.refl _ _) | (with_reducible exact hbz) | (with_reducible refine Below.al ?_ _) | (with_reducible refine Below.drN ?_ _) | (with_reducible refine Below.drew ?_) | (with_reducible refine Below.st ?_ ?_ _; rotate_left 1; (first | (dsimp only; omega) | omega | (simp; omega) | simp)) | (with_reducible refine Below.go ?_ hbr) | exact Below.refl _ _ | exact hbz))
      go_wp2
      go_ret
      exact ⟨rfl, hbe⟩

theorem own : ownKnob Tryd.prog.godebug = none := by kernel_rfl
theorem laidOut : laidOutB Tryd.prog = true := by kernel_rfl
theorem et : Tryd.prog.globalNamed "errors.errorType" = some 0 := by kernel_rfl
theorem rt : (Tryd.prog.cutTypes.find? (·.1 == "internal/reflectlite.rtype")).map (·.2) = some 135 := by kernel_rfl
theorem oneRow : ((List.range 183).filter fun t => Tryd.prog.rowNamed t [101, 114, 114, 111, 114]) = [27] := by kernel_rfl
theorem tsize : Tryd.prog.types.size = 183 := by kernel_rfl
theorem handle_of_laid {W : World} (h : laidMetH Tryd.prog Rows.netGathersRow.laid W) : Handle W := by
  have h' : laidMet Tryd.prog [] W ∧ handlesMet Tryd.prog Rows.netGathersRow.laid W := h
  obtain ⟨name, u, ty, e1, e2, e3, e4, e5⟩ := h'.2 _ (List.mem_singleton.2 rfl)
  have en : name = [101, 114, 114, 111, 114] := (Option.some.inj e1).symm
  subst en
  obtain rfl := Option.some.inj (rt.symm.trans e2)
  have hm : ty ∈ (List.range 183).filter fun t => Tryd.prog.rowNamed t [101, 114, 114, 111, 114] := List.mem_filter.2 ⟨List.mem_range.2 (by rw [← tsize]; exact e3), e4⟩
  rw [oneRow] at hm
  obtain rfl := List.mem_singleton.1 hm
  have hh : typeHandle Tryd.prog 27 = .pointer (some ⟨1, 27, none⟩) := by kernel_rfl
  rw [hh] at e5
  simpa [Handle, handleV] using World.var?_cell et e5 0
noncomputable def laidWorld (os : Os) : World :=
  { World.holding Tryd.prog os ⟨#[], #[], []⟩ with heap := (World.holding Tryd.prog os ⟨#[], #[], []⟩).heap.modify 0 fun
      | .cells _ t frozen => .cells #[.iface 135 (.agg #[.pointer (some ⟨1, 27, none⟩)])] t frozen
      | o => o }
theorem laid_met (os : Os) : laidMetH Tryd.prog Rows.netGathersRow.laid ((laidWorld os).forCall (fun _ _ => 0) ⟨#[], #[.slice none 0 0, .slice none 0 0, .slice none 0 0], []⟩).memory :=
  laidMetH_of_parts (laidMet_nil _ _) (by kernel_rfl)
theorem reads (os : Os) {H : Type} (enc : TypeId × Value → H) : ∃ places, DataW.whole enc Tryd.prog ((laidWorld os).forCall (fun _ _ => 0) ⟨#[], #[.slice none 0 0, .slice none 0 0, .slice none 0 0], []⟩).memory Tryd.f4.params.toList Rows.netGathersSpec.vars false (#[.slice none 0 0, .slice none 0 0, .slice none 0 0] : Array Value).toList 8 = some ([.nil, .nil, .nil], [], places) :=
  ⟨[], by kernel_rfl⟩
set_option maxRecDepth 100000 in
set_option maxHeartbeats 1000000 in
theorem contract (H : Type) (enc : TypeId × Value → H) (W : World) (base : Nat) (args : Array Value) (ds gs : List (DataW H)) (before : List MemPlace)
    (hval0 : ∀ (j : Nat) t v, Tryd.f4.params[j]? = some t → args[j]? = some v → Value.okWide Tryd.prog W .any base t v)
    (hW : DataW.Whole enc Tryd.prog Tryd.f4.params.toList Rows.netGathersSpec.vars false W args.toList ds gs before) (hh : Handle W) (hs0 : (DataW.weightsEach Tryd.prog (Tryd.f4.params.toList ++ (OpenSpec.ofChange Rows.netGathersSpec).bare.plain.varTypes Tryd.prog) (ds ++ gs)).all (· ≤ reachBytes) = true) :
    Calls Tryd.prog 4 args W fun e W' => ∃ v, e = .returned v ∧ Rows.netGathersSpec.post enc Tryd.prog Tryd.f4 false true false false W args v W' := by
  have hval := hval0
  have hW' := hW
  obtain ⟨p, q, hA0, hV, rfl, hfz, hnd⟩ := hW
  have hA : DataW.TrodAll enc Tryd.prog W 0 (fun _ => true) true Tryd.f4.params.toList args.toList ds p := hA0
  rw [Tryd.params4] at hA hval
  obtain ⟨v0, vs0, d0, ds0, p0, q0, hargs, rfl, rfl, h0, r0⟩ := trodAll_cons hA
  obtain ⟨v1, vs1, d1, ds1, p1, q1, rfl, rfl, rfl, h1, r1⟩ := trodAll_cons r0
  obtain ⟨v2, vs2, d2, ds2, p2, q2, rfl, rfl, rfl, h2, r2⟩ := trodAll_cons r1
  obtain ⟨rfl, rfl, rfl⟩ := trodAll_nil r2
  obtain rfl : args = #[v0, v1, v2] := by cases args; simp_all
  obtain ⟨rfl, rfl⟩ := trodVars_none hV
  have hs : Gal.Within (DataW.weightsEach Tryd.prog [35, 36, 36] [d0, d1, d2]) := hs0
  simp only [DataW.weightsEach] at hs
  have s0 := hs.left
  have s1 := hs.right.left
  have s2 := hs.right.right.left
  clear hs hs0
  have k0 := h0
  have lt0 : ∀ x ∈ p0, x.block < W.heap.size := by obtain ⟨m, hm⟩ := k0; exact DataW.trod_lt m _ _ _ hm
  have k1 := h1
  have lt1 : ∀ x ∈ p1, x.block < W.heap.size := by obtain ⟨m, hm⟩ := k1; exact DataW.trod_lt m _ _ _ hm
  have k2 := h2
  have lt2 : ∀ x ∈ p2, x.block < W.heap.size := by obtain ⟨m, hm⟩ := k2; exact DataW.trod_lt m _ _ _ hm
  obtain ⟨a0, w0⟩ := open_lLayer_sized (hval 0 35 v0 rfl rfl) h0 s0
  obtain ⟨a1, w1⟩ := open_lGrad_sized (hval 1 36 v1 rfl rfl) h1 s1
  obtain ⟨a2, w2⟩ := open_lGrad_sized (hval 2 36 v2 rfl rfl) h2 s2
  clear hA0 hval0
  refine (walk a0 v0 a1 v1 a2 v2 W w0 w1 w2 hh).mono fun e W' ⟨he, bel⟩ => ?_
  subst he
  exact ⟨_, rfl, _, _, _, [], _, [], hW', trodAll_mk1 (shut_bool Tryd.underlying4 _), (trodAll_cons_mk (Below.trod laidOut (by kernel_rfl) (of_decide_eq_true (by kernel_rfl)) k0 bel lt0) (trodAll_cons_mk (Below.trod laidOut (by kernel_rfl) (of_decide_eq_true (by kernel_rfl)) k1 bel lt1) (trodAll_cons_mk (Below.trod laidOut (by kernel_rfl) (of_decide_eq_true (by kernel_rfl)) k2 bel lt2) trodAll_mk0))), rfl, bel.frame _, fun h => by cases h⟩

set_option maxRecDepth 100000 in
theorem lifted (os : Os) (started : os.Started) (H : Type) (enc : TypeId × Value → H) (F : Stop.Interp) :
    ReturnsInHanded {} Tryd.checked os 4 .any ((OpenSpec.ofChange Rows.netGathersSpec).preRow enc Tryd.prog Tryd.f4 Rows.netGathersRow.domain false Rows.netGathersRow.laid) (((OpenSpec.ofChange Rows.netGathersSpec).at F).post enc Tryd.prog Tryd.f4 false true false false) := by
  obtain ⟨places, hx⟩ := reads os enc
  refine returnsInHanded_of_row (C := Tryd.checked) (s := OpenSpec.ofChange Rows.netGathersSpec) own started (by kernel_rfl) Tryd.func4
    (witness_row_at (enc := enc) (C := Tryd.checked) false (laidWorld os) #[.slice none 0 0, .slice none 0 0, .slice none 0 0] rfl (by kernel_rfl) (by kernel_rfl) (by kernel_rfl)
      (OpenSpec.preRow_of_cond 8 hx (by kernel_rfl) (fun k hk => by cases hk) (by kernel_rfl) (laid_met os))) ?_
  intro W base args ds gs before hval hW _ _ hsz hL _ _
  exact contract H enc W base args ds gs before hval hW (handle_of_laid hL) hsz

theorem said : Rows.NetGathersSaid :=
  OpenClaim.holds_of_cond 4 Tryd.f4 rfl rfl rfl rfl rfl rfl rfl ⟨rfl, rfl, rfl, rfl, rfl⟩ rfl rfl rfl rfl rfl (by kernel_rfl) Tryd.func4 (by kernel_rfl)
    (of_decide_eq_true (by kernel_rfl)) (by unfold Func.isWrapper; first | (rw [if_pos (by decide +kernel)]; kernel_rfl) | (rw [if_neg (by decide +kernel)]; exact ⟨rfl, rfl⟩))
    (fun os started H enc _ F => by rw [OpenClaim.pre_eq_preRow]; exact lifted os started H enc F)
theorem plain (f : FuncId) (fn : Func) (hf : Tryd.pinned.checked.prog.funcNamed Rows.netGathersRow.func = some f) (hfn : Tryd.pinned.checked.prog.funcs[f]? = some fn) :
    Rows.netGathersCard.stood.looks = Tryd.pinned.checked.prog.looks [] ∧ ∀ (j : Nat) t, fn.params[j]? = some t → Tryd.pinned.checked.prog.wantsStandIn t = false := by
  obtain rfl : f = 4 := Option.some.inj ((show Tryd.prog.funcNamed Rows.netGathersRow.func = some 4 by kernel_rfl).symm.trans hf) |>.symm
  obtain rfl : fn = Tryd.f4 := (Option.some.inj (Tryd.func4.symm.trans hfn)).symm
  refine ⟨by kernel_rfl, fun j t ht => ?_⟩
  rw [Tryd.params4] at ht
  have hm := Array.mem_of_getElem? ht
  have hc : t = 35 ∨ t = 36 ∨ t = 36 := by simpa using hm
  rcases hc with rfl | rfl | rfl
  · exact (show Tryd.prog.wantsStandIn 35 = false by kernel_rfl)
  · exact (show Tryd.prog.wantsStandIn 36 = false by kernel_rfl)
  · exact (show Tryd.prog.wantsStandIn 36 = false by kernel_rfl)
theorem proved : Rows.NetGathersCardSaid :=
  Claim7.holds_tied_plain_at .later [] _ _ _ _ said (fun _ h => by cases h) (by kernel_rfl) (fun _ h => by cases h) netGathers_row_tie rfl ⟨rfl, rfl⟩ (by kernel_rfl) rfl plain (by kernel_rfl)
#print axioms proved

end Go.Proofs.YtikcdjibflleeaaDoor.lawNetGathers
