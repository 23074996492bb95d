/- The reference: MessageRead. -/
import Derived.Test.YtgknjikjjklaiaaDoorRWire3
import Derived.Test.YtgknjikjjklaiaaDoorOpenM
import Derived.Test.YtgknjikjjklaiaaDoorReg3
import Derived.Deep.RegionLaw
import Derived.Deep.RegionHeld3
import Derived.Deep.CutBlock
import Derived.Deep.DeepCutAuto
set_option linter.unusedVariables false
set_option linter.unusedSimpArgs false
set_option linter.unusedSectionVars false
set_option maxRecDepth 100000
namespace Gal
theorem readN_more {bs : List Nat} {m at0 : Nat} (n : Nat) (h : readN bs m at0 = none) : readN bs (m + n) at0 = none := by rw [readN_add, h]
theorem cells4 {W : Go.World} {b : Nat} {v0 v1 v2 v3 : Go.Value} {t : Go.TypeId} (h : Box W b [v0, v1, v2, v3] t) : W.cell? ⟨b, 0, none⟩ = some v0 ∧ W.cell? ⟨b, 1, none⟩ = some v1 ∧ W.cell? ⟨b, 2, none⟩ = some v2 ∧ W.cell? ⟨b, 3, none⟩ = some v3 := ⟨h.cell 0, h.cell 1, h.cell 2, h.cell 3⟩
theorem set_take (ls : List Nat) (t v : Nat) (h : t < ls.length) : (ls.set t v).take (t + 1) = ls.take t ++ [v] := by
  induction ls generalizing t with
  | nil => simp at h
  | cons a l ih =>
    cases t with
    | zero => simp
    | succ t => simp only [List.set_cons_succ, List.take_succ_cons, List.cons_append]; rw [ih t (by simpa using h)]
theorem four {ls : List Nat} (h : ls.length = 4) : ∃ a b c d, ls = [a, b, c, d] := by
  match ls, h with
  | [a, b, c, d], _ => exact ⟨a, b, c, d, rfl⟩
end Gal
namespace Go.Proofs.YtgknjikjjklaiaaDoor
open Go.RowKit Gal
set_option maxHeartbeats 4000000
/-- what MessageRead answers -/
def ReadPost (w w' : World) (bs : List Nat) (e : Ending) : Prop := ∃ (v : Value) (m : MsgD) (N : Int), e = .returned (.tuple #[v, .int .i64 N]) ∧ MsgV w' v m ∧ Below w.heap.size w w' ∧
  ((msgRead bs = some (m, N.toNat) ∧ 0 ≤ N) ∨ (msgRead bs = none ∧ m = ⟨0, 0, ⟨0, 0, []⟩⟩ ∧ N = -1))
theorem refMessageRead_any (bs : List Nat) (a : Option Addr) (n k b o : Nat) (F : Nat → Prop) (w : World) (h : RowAt Form.u8 w F a n k b o bs) :
    Calls Tryd.prog 21 #[.slice a n k] w fun e w' => ReadPost w w' bs e := by
  have HL := Lib.hid h.len
  obtain ⟨j0, hj, hy0, hy1, hy2⟩ := info_parts info_int'
  obtain ⟨oz, hoz⟩ : ∃ oz : Obj, Obj.cells #[.int .i64 0, .int .i64 0, .int .i64 0, .int .i64 0, .slice none 0 0] 26 = oz := ⟨_, rfl⟩
  obtain ⟨ol, hol⟩ : ∃ ol : Obj, Obj.cells #[.int .i64 0, .int .i64 0, .int .i64 0, .int .i64 0] 3 = ol := ⟨_, rfl⟩
  obtain ⟨w0, hw0⟩ : ∃ w0, ((w.alloc oz).alloc oz).alloc ol = w0 := ⟨_, rfl⟩
  have hb0 : Below w.heap.size w w0 := by rw [← hw0]; exact (by repeat (first | fail | (with_reducible exact Below.refl _ _) | (with_reducible refine Below.al ?_ _) | (with_reducible refine Below.drN ?_ _) | (with_reducible refine Below.drew ?_) | (with_reducible refine Below.st ?_ ?_ _; rotate_left 1; (first | (dsimp only; omega) | omega | (simp; omega) | simp)) | exact Below.refl _ _))
  have hs0 : w0.heap.size = w.heap.size + 3 := by rw [← hw0]; simp
  have hS0 : Box w0 w.heap.size [.int .i64 0, .int .i64 0, .int .i64 0, .int .i64 0, .slice none 0 0] 26 := by rw [← hw0, ← hoz]; exact ((Box.new' _ _ [.int .i64 0, .int .i64 0, .int .i64 0, .int .i64 0, .slice none 0 0] _ rfl).alloc _).alloc _
  have hN0 : Box w0 (w.heap.size + 1) [.int .i64 0, .int .i64 0, .int .i64 0, .int .i64 0, .slice none 0 0] 26 := by rw [← hw0, ← hoz]; exact (Box.new' _ _ [.int .i64 0, .int .i64 0, .int .i64 0, .int .i64 0, .slice none 0 0] _ (by simp)).alloc _
  have hL0 : Box w0 (w.heap.size + 2) ([0, 0, 0, 0].map fun (x : Nat) => Value.int .i64 (x : Int)) 3 := by rw [← hw0, ← hol]; exact Box.new' _ _ [.int .i64 0, .int .i64 0, .int .i64 0, .int .i64 0] _ (by simp)
  have hmk := fun W => run_make_rowN (P := Tryd.prog) 22 3 j0 _ Tryd.underlying22 hj hy0 .i64 .i64 4 4 (4 : Int) (4 : Int) rfl rfl (Nat.le_refl _) (by rw [hy2]; omega) (by omega) W
  rw [hy1, show madeCells (Value.int .i64 0).cells (4 * 1) = #[.int .i64 0, .int .i64 0, .int .i64 0, .int .i64 0] from Array.toList_inj.1 (by show (madeCells #[.int .i64 0] 4).toList = _; rw [toList_madeCells_one]; rfl)] at hmk
  have HW0 := Lib.hid hw0
  have HOZ := Lib.hid hoz
  have HOL := Lib.hid hol
  clear hw0 hoz hol
  go_enter Tryd.func21, Tryd.ntmps21
  go_wp2
  rw [HOZ.out, HOL.out, HW0.out]
  go_loopw [6, 7] (fun u i wr => ∃ (t at7 : Nat) (ls : List Nat), t ≤ 4 ∧ i = .int .i64 t ∧ u = .int .i64 at7 ∧ at7 ≤ n ∧ ls.length = 4 ∧ Hid (RdN bs t 0 at7 true (ls.take t)) ∧ Box wr w.heap.size [.int .i64 0, .int .i64 0, .int .i64 0, .int .i64 0, .slice none 0 0] 26 ∧ Box wr (w.heap.size + 1) [.int .i64 0, .int .i64 0, .int .i64 0, .int .i64 0, .slice none 0 0] 26 ∧ Box wr (w.heap.size + 2) (ls.map fun (x : Nat) => Value.int .i64 (x : Int)) 3 ∧ Below w.heap.size w wr) (fun _ i _ => 4 - (intOf i).toNat)
  case atStart => exact ⟨0, 0, [0, 0, 0, 0], by decide, rfl, rfl, Nat.zero_le _, rfl, Lib.hid (RdN.start bs 0), hS0, hN0, hL0, hb0⟩
  case round =>
    clear hS0 hN0 hL0 hb0 hs0
    obtain ⟨t, at7, ls, ht, rfl, rfl, hat, hls, hR, hS, hN, hLb, hb⟩ := hrel
    by_cases hlt : t < 4
    · have hrow := h.keep hb
      go_wp2_with fail
      refine (refSevenAt_any bs a n k b o at7 F wr hrow hat).mono ?_
      rintro e w1 ⟨x, y, rfl, hsev, hb1⟩
      replace hS := hS.keep hb1
      replace hN := hN.keep hb1
      replace hLb := hLb.keep hb1
      have hbw : Below w.heap.size w w1 := hb.trans (hb1.mono hb.size)
      have fL := hLb.thawed t
      obtain ⟨c, hc, _⟩ : ∃ c : Nat, w1.cell? ⟨w.heap.size + 2, t, none⟩ = some (.int .i64 (c : Int)) ∧ True := ⟨ls[t]'(by omega), by rw [hLb.cell t, List.getElem?_map, List.getElem?_eq_getElem (by omega)]; rfl, trivial⟩
      rcases hsev with ⟨v, at8, hv, rfl, rfl⟩ | ⟨hv, rfl, rfl⟩
      · obtain ⟨hlo, _, hhi⟩ := sevAt_end hv
        rw [HL.out] at hhi
        have e1 : ((at8 : Int) < 0) = False := eq_false (by omega)
        have p0 : (0 : Int) ≤ (t : Int) := by omega
        have p1 : (t : Int) < 4 := by omega
        obtain ⟨wq, hwq⟩ : ∃ wq, w1.setCell ⟨w.heap.size + 2, t, none⟩ (.int .i64 (v : Int)) = wq := ⟨_, rfl⟩
        have hS' : Box wq w.heap.size [.int .i64 0, .int .i64 0, .int .i64 0, .int .i64 0, .slice none 0 0] 26 := by rw [← hwq]; exact Box.far hS (by dsimp only; omega) _
        have hN' : Box wq (w.heap.size + 1) [.int .i64 0, .int .i64 0, .int .i64 0, .int .i64 0, .slice none 0 0] 26 := by rw [← hwq]; exact Box.far hN (by dsimp only; omega) _
        have hL' : Box wq (w.heap.size + 2) ((ls.set t v).map fun (x : Nat) => Value.int .i64 (x : Int)) 3 := by
          rw [← hwq]
          have := hLb.set t (.int .i64 (v : Int))
          rw [List.map_set]
          exact this
        have hbq : Below w.heap.size w wq := by rw [← hwq]; exact hbw.setCell (by dsimp only; omega) _
        have hRq : Hid (RdN bs (t + 1) 0 at8 true ((ls.set t v).take (t + 1))) := Lib.hid (by
          rw [set_take ls t v (by omega)]
          exact hR.out.step (Or.inl ⟨hv, rfl⟩))
        have hlq : (ls.set t v).length = 4 := by rw [List.length_set, hls]
        have HWQ := Lib.hid hwq
        clear hwq hS hN hLb hb hbw hb1 hv hR
        go_upto_region 8 with (fail)
        rw [HWQ.out]
        clear fL
        go_wp2
        go_roundw
        case rel => exact ⟨t + 1, at8, ls.set t v, by omega, by go_num, rfl, hhi, hlq, hRq, hS', hN', hL', hbq⟩
        case measure => simp [intOf]; omega
      · have p0 : (0 : Int) ≤ (t : Int) := by omega
        have p1 : (t : Int) < 4 := by omega
        have HNO : Hid (msgRead bs = none) := Lib.hid (by
          have h1 : RdN bs (t + 1) 0 at7 false (ls.take t ++ [0]) := hR.out.step (Or.inr ⟨hv, rfl⟩)
          rcases h1 with ⟨_, h1⟩ | ⟨h1, _⟩
          · cases h1
          · refine msgRead_none4 ?_
            rw [show 4 = (t + 1) + (3 - t) by omega]
            exact readN_more _ h1)
        obtain ⟨wq, hwq⟩ : ∃ wq, w1.setCell ⟨w.heap.size + 2, t, none⟩ (.int .i64 0) = wq := ⟨_, rfl⟩
        have hS' : Box wq w.heap.size [.int .i64 0, .int .i64 0, .int .i64 0, .int .i64 0, .slice none 0 0] 26 := by rw [← hwq]; exact Box.far hS (by dsimp only; omega) _
        have hN' : Box wq (w.heap.size + 1) [.int .i64 0, .int .i64 0, .int .i64 0, .int .i64 0, .slice none 0 0] 26 := by rw [← hwq]; exact Box.far hN (by dsimp only; omega) _
        have hbq : Below w.heap.size w wq := by rw [← hwq]; exact hbw.setCell (by dsimp only; omega) _
        have HWQ := Lib.hid hwq
        clear hwq hS hN hLb hb hbw hb1 hv hR
        go_upto_region 8 with (fail)
        rw [HWQ.out]
        clear fL
        -- the way out: hS' the result's box, hN' the empty one's, hbq Below
        have n0 := Box.cell hN' 0
        have n1 := Box.cell hN' 1
        have n2 := Box.cell hN' 2
        have n3 := Box.cell hN' 3
        have n4 := Box.cell hN' 4
        have s0 := Box.cell hS' 0
        have s1 := Box.cell hS' 1
        have s2 := Box.cell hS' 2
        have s3 := Box.cell hS' 3
        have s4 := Box.cell hS' 4
        have f0 := Box.thawed hS' 0
        have f1 := Box.thawed hS' 1
        have f2 := Box.thawed hS' 2
        have f3 := Box.thawed hS' 3
        have f4 := Box.thawed hS' 4
        have bz := (((((Box.set hS' 0 (.int .i64 0)).set 1 (.int .i64 0)).set 2 (.int .i64 0)).set 3 (.int .i64 0)).set 4 (.slice none 0 0))
        have z0 := bz.cell 0
        have z1 := bz.cell 1
        have z2 := bz.cell 2
        have z3 := bz.cell 3
        have z4 := bz.cell 4
        go_wp2
        refine bodyPost_ret (v := .tuple #[.agg #[.int .i64 0, .int .i64 0, .int .i64 0, .int .i64 0, .slice none 0 0], .int .i64 (-1)]) (by simp [results, Tryd.results21, go_sem, z0, z1, z2, z3, z4]) rfl ⟨_, ⟨0, 0, ⟨0, 0, []⟩⟩, -1, rfl, ⟨none, 0, 0, 0, 0, rfl, (RowAt.nil Form.int _ anyB).ints⟩, (by repeat (first | fail | (with_reducible exact Below.refl _ _) | (with_reducible exact hbq) | (with_reducible refine Below.al ?_ _) | (with_reducible refine Below.drN ?_ _) | (with_reducible refine Below.drew ?_) | (with_reducible refine Below.st ?_ ?_ _; rotate_left 1; (first | (dsimp only; omega) | omega | (simp; omega) | simp)) | exact Below.refl _ _ | exact hbq)), Or.inr ⟨HNO.out, rfl, rfl⟩⟩
    · obtain rfl : t = 4 := by omega
      obtain ⟨v1, v2, v4, v5, rfl⟩ := four hls
      have hN4 : readN bs 4 0 = some ([v1, v2, v4, v5], at7) := by
        rcases hR.out with ⟨h1, _⟩ | ⟨_, h1⟩
        · exact h1
        · cases h1
      have HN4 := Lib.hid hN4
      have hLx : Box wr (w.heap.size + 2) [.int .i64 (v1 : Int), .int .i64 (v2 : Int), .int .i64 (v4 : Int), .int .i64 (v5 : Int)] 3 := hLb
      have l0 := hLx.cell 0
      have l1 := hLx.cell 1
      have l2 := hLx.cell 2
      have l3 := hLx.cell 3
      have hsz : w.heap.size + 3 ≤ wr.heap.size := by have := hLx.lt; omega
      clear hN4 hR hls hLb ht hlt
      by_cases g1 : 24 < v4
      · have e1 : ((v4 : Int) > 24) = True := eq_true (by omega)
        have HNO : Hid (msgRead bs = none) := Lib.hid (msgRead_big HN4.out (Or.inl g1))
        clear g1
        -- the way out: hS the result's box, hN the empty one's, hb Below
        have n0 := Box.cell hN 0
        have n1 := Box.cell hN 1
        have n2 := Box.cell hN 2
        have n3 := Box.cell hN 3
        have n4 := Box.cell hN 4
        have s0 := Box.cell hS 0
        have s1 := Box.cell hS 1
        have s2 := Box.cell hS 2
        have s3 := Box.cell hS 3
        have s4 := Box.cell hS 4
        have f0 := Box.thawed hS 0
        have f1 := Box.thawed hS 1
        have f2 := Box.thawed hS 2
        have f3 := Box.thawed hS 3
        have f4 := Box.thawed hS 4
        have bz := (((((Box.set hS 0 (.int .i64 0)).set 1 (.int .i64 0)).set 2 (.int .i64 0)).set 3 (.int .i64 0)).set 4 (.slice none 0 0))
        have z0 := bz.cell 0
        have z1 := bz.cell 1
        have z2 := bz.cell 2
        have z3 := bz.cell 3
        have z4 := bz.cell 4
        go_wp2
        refine bodyPost_ret (v := .tuple #[.agg #[.int .i64 0, .int .i64 0, .int .i64 0, .int .i64 0, .slice none 0 0], .int .i64 (-1)]) (by simp [results, Tryd.results21, go_sem, z0, z1, z2, z3, z4]) rfl ⟨_, ⟨0, 0, ⟨0, 0, []⟩⟩, -1, rfl, ⟨none, 0, 0, 0, 0, rfl, (RowAt.nil Form.int _ anyB).ints⟩, (by repeat (first | fail | (with_reducible exact Below.refl _ _) | (with_reducible exact hb) | (with_reducible refine Below.al ?_ _) | (with_reducible refine Below.drN ?_ _) | (with_reducible refine Below.drew ?_) | (with_reducible refine Below.st ?_ ?_ _; rotate_left 1; (first | (dsimp only; omega) | omega | (simp; omega) | simp)) | exact Below.refl _ _ | exact hb)), Or.inr ⟨HNO.out, rfl, rfl⟩⟩
      · have e1 : ((v4 : Int) > 24) = False := eq_false (by omega)
        by_cases g2 : 12 < v5
        · have e2 : ((v5 : Int) > 12) = True := eq_true (by omega)
          have HNO : Hid (msgRead bs = none) := Lib.hid (msgRead_big HN4.out (Or.inr g2))
          clear g1 g2
          -- the way out: hS the result's box, hN the empty one's, hb Below
          have n0 := Box.cell hN 0
          have n1 := Box.cell hN 1
          have n2 := Box.cell hN 2
          have n3 := Box.cell hN 3
          have n4 := Box.cell hN 4
          have s0 := Box.cell hS 0
          have s1 := Box.cell hS 1
          have s2 := Box.cell hS 2
          have s3 := Box.cell hS 3
          have s4 := Box.cell hS 4
          have f0 := Box.thawed hS 0
          have f1 := Box.thawed hS 1
          have f2 := Box.thawed hS 2
          have f3 := Box.thawed hS 3
          have f4 := Box.thawed hS 4
          have bz := (((((Box.set hS 0 (.int .i64 0)).set 1 (.int .i64 0)).set 2 (.int .i64 0)).set 3 (.int .i64 0)).set 4 (.slice none 0 0))
          have z0 := bz.cell 0
          have z1 := bz.cell 1
          have z2 := bz.cell 2
          have z3 := bz.cell 3
          have z4 := bz.cell 4
          go_wp2
          refine bodyPost_ret (v := .tuple #[.agg #[.int .i64 0, .int .i64 0, .int .i64 0, .int .i64 0, .slice none 0 0], .int .i64 (-1)]) (by simp [results, Tryd.results21, go_sem, z0, z1, z2, z3, z4]) rfl ⟨_, ⟨0, 0, ⟨0, 0, []⟩⟩, -1, rfl, ⟨none, 0, 0, 0, 0, rfl, (RowAt.nil Form.int _ anyB).ints⟩, (by repeat (first | fail | (with_reducible exact Below.refl _ _) | (with_reducible exact hb) | (with_reducible refine Below.al ?_ _) | (with_reducible refine Below.drN ?_ _) | (with_reducible refine Below.drew ?_) | (with_reducible refine Below.st ?_ ?_ _; rotate_left 1; (first | (dsimp only; omega) | omega | (simp; omega) | simp)) | exact Below.refl _ _ | exact hb)), Or.inr ⟨HNO.out, rfl, rfl⟩⟩
        · have e2 : ((v5 : Int) > 12) = False := eq_false (by omega)
          obtain ⟨P, hP⟩ : ∃ P, v4 * v5 = P := ⟨_, rfl⟩
          have hPI : (v4 : Int) * (v5 : Int) = (P : Int) := by rw [← hP]; push_cast; rfl
          have hPb : P ≤ 288 := by
            have h1 : v4 * v5 ≤ 24 * 12 := Nat.mul_le_mul (by omega) (by omega)
            omega
          have hmul : wrap64 ((v4 : Int) * (v5 : Int)) = (P : Int) := by rw [hPI]; unfold wrap64; omega
          have HB4 : Hid (¬ (24 < v4 ∨ 12 < v5)) := Lib.hid (by omega)
          have HP := Lib.hid hP
          have HMUL := Lib.hid hmul
          clear g1 g2 hP hPI hmul
          have m0 := fun ob => (hLx.alloc ob).cell 0
          have m1 := fun ob => (hLx.alloc ob).cell 1
          have m2 := fun ob => (hLx.alloc ob).cell 2
          have m3 := fun ob => (hLx.alloc ob).cell 3
          go_upto_region 12 with (fail)
          have hlt := hLx.lt
          have HJ := Lib.hid hmk
          have HI := Lib.hid h
          have HH := Lib.hid (And.intro hS (And.intro hN hb))
          clear l0 l1 l2 l3 m0 m1 m2 m3 hmk h hb hS hN e1 e2
          obtain ⟨wo, rfl⟩ : ∃ wo, wo = wr := ⟨_, rfl⟩
          go_cut [8] (fun s wx => ∃ M, s = .pointer (some ⟨M, 0, none⟩) ∧ wo.heap.size ≤ M ∧ Box wx M [.int .i64 (v1 : Int), .int .i64 (v2 : Int), .int .i64 (v4 : Int), .int .i64 (v5 : Int), .slice none 0 0] 26 ∧ Below wo.heap.size wo wx)
          case first =>
            clear hat hPb
            go_region_held3 (fun w' => w'.cell? ⟨w.heap.size + 1 + 1, 0, none⟩ = some (.int .i64 (v1 : Int)) ∧ w'.cell? ⟨w.heap.size + 1 + 1, 1, none⟩ = some (.int .i64 (v2 : Int)) ∧ w'.cell? ⟨w.heap.size + 1 + 1, 2, none⟩ = some (.int .i64 (v4 : Int)) ∧ w'.cell? ⟨w.heap.size + 1 + 1, 3, none⟩ = some (.int .i64 (v5 : Int))) (exact cells4 (t := 3) (by repeat (first | fail | (with_reducible exact hLx) | (with_reducible refine Box.alloc ?_ _) | (with_reducible refine Box.drewN ?_ _) | (with_reducible refine Box.drew ?_) | (with_reducible refine Box.far ?_ ?_ _; rotate_left 1; (first | (dsimp only; omega) | omega | (simp; omega) | simp)) | exact hLx))) (fail)
            all_goals (
              go_wp2_with fail
              go_meet
              exact ⟨_, rfl, Nat.le_refl _, (by repeat (first | fail | (with_reducible refine (Box.new' _ _ _ _ ?_); (simp; done)) | (with_reducible refine Box.alloc ?_ _) | (with_reducible refine Box.drewN ?_ _) | (with_reducible refine Box.drew ?_) | (with_reducible refine Box.far ?_ ?_ _; rotate_left 1; (first | (dsimp only; omega) | omega | (simp; omega) | simp)))), (by repeat (first | fail | (with_reducible exact Below.refl _ _) | (with_reducible refine Below.al ?_ _) | (with_reducible refine Below.drN ?_ _) | (with_reducible refine Below.drew ?_) | (with_reducible refine Below.st ?_ ?_ _; rotate_left 1; (first | (dsimp only; omega) | omega | (simp; omega) | simp)) | exact Below.refl _ _))⟩)
          case rest =>
            obtain ⟨M, rfl, hM, hMb, hbc⟩ := hcut
            obtain ⟨hS, hN, hb⟩ := HH.out
            have hMl := hMb.lt
            go_wp2
            go_loopw [6, 9] (fun u i wy => ∃ (t at8 : Nat) (vs : Value) (cells : List Nat), t ≤ P ∧ i = .int .i64 t ∧ u = .int .i64 at8 ∧ at8 ≤ n ∧ cells.length = t ∧ Hid (RdN bs t at7 at8 true cells) ∧ Box wy M [.int .i64 (v1 : Int), .int .i64 (v2 : Int), .int .i64 (v4 : Int), .int .i64 (v5 : Int), vs] 26 ∧ OwnRow Form.int 3 wy (M + 1) noK vs (cells.map zagOf) ∧ Below wo.heap.size wo wy ∧ M + 1 ≤ wy.heap.size) (fun _ i _ => P - (intOf i).toNat)
            case atStart => exact ⟨0, at7, _, [], Nat.zero_le _, rfl, rfl, hat, rfl, Lib.hid (RdN.start bs at7), hMb, OwnRow.nil _ _ _ _ _, hbc, hMl⟩
            case round =>
              clear hMb hbc hMl
              obtain ⟨t, at8, vs, cells, ht, rfl, rfl, hat8, hcl, hR8, hMb, hown, hby, hsy⟩ := hrel
              have hLy := hLx.keep hby
              have l2 := hLy.cell 2
              have l3 := hLy.cell 3
              have hbw : Below w.heap.size w wr := hb.trans (hby.mono hb.size)
              have hS8 := hS.keep hby
              have hN8 := hN.keep hby
              by_cases hlp : t < P
              · have g1 : ((t : Int) < (P : Int)) = True := eq_true (Int.ofNat_lt.2 hlp)
                have hmul := HMUL.out
                rw [show ((4 : Nat) : Int) = (4 : Int) from rfl]
                go_wp2
                go_quiet (fail)
                clear hmul g1 l2 l3
                obtain ⟨wp, hwp⟩ : ∃ wp, wr.drewN nq = wp := ⟨_, rfl⟩
                have hMp : Box wp M [.int .i64 (v1 : Int), .int .i64 (v2 : Int), .int .i64 (v4 : Int), .int .i64 (v5 : Int), vs] 26 := by rw [← hwp]; exact hMb.drewN nq
                have hbp : Below wo.heap.size wo wp := by rw [← hwp]; exact (by repeat (first | fail | (with_reducible exact Below.refl _ _) | (with_reducible exact hby) | (with_reducible refine Below.al ?_ _) | (with_reducible refine Below.drN ?_ _) | (with_reducible refine Below.drew ?_) | (with_reducible refine Below.st ?_ ?_ _; rotate_left 1; (first | (dsimp only; omega) | omega | (simp; omega) | simp)) | exact Below.refl _ _ | exact hby))
                have hsp : M + 1 ≤ wp.heap.size := by rw [← hwp]; simpa using hsy
                have hwpb : Below wr.heap.size wr wp := by rw [← hwp]; exact (by repeat (first | fail | (with_reducible exact Below.refl _ _) | (with_reducible refine Below.al ?_ _) | (with_reducible refine Below.drN ?_ _) | (with_reducible refine Below.drew ?_) | (with_reducible refine Below.st ?_ ?_ _; rotate_left 1; (first | (dsimp only; omega) | omega | (simp; omega) | simp)) | exact Below.refl _ _))
                have hownp : OwnRow Form.int 3 wp (M + 1) noK vs (cells.map zagOf) := hown.keep hwpb
                have hrp : RowAt Form.u8 wp F a n k b o bs := HI.out.keep (hb.trans (hbp.mono hb.size))
                rw [hwp]
                clear hwp hMb hby hsy hwpb hown hbw hS8 hN8 hLy
                go_wp2_with fail
                refine (refSevenAt_any bs a n k b o at8 F wp hrp hat8).mono ?_
                rintro e w1 ⟨x, y, rfl, hsev, hb1⟩
                have hM1 := hMp.keep hb1
                have hb1w : Below wo.heap.size wo w1 := hbp.trans (hb1.mono hbp.size)
                have hown1 := hownp.keep hb1
                have hs1 : M + 1 ≤ w1.heap.size := Nat.le_trans hsp hb1.size
                have hS1 := hS.keep hb1w
                have hN1 := hN.keep hb1w
                have hbw1 : Below w.heap.size w w1 := hb.trans (hb1w.mono hb.size)
                clear hMp hbp hsp hownp hrp hb1
                rcases hsev with ⟨v, at9, hv, rfl, rfl⟩ | ⟨hv, rfl, rfl⟩
                · obtain ⟨hlo, _, hhi⟩ := sevAt_end hv
                  rw [HL.out] at hhi
                  have hv63 := sevAt_lt hv
                  have HR9 : Hid (RdN bs (t + 1) at7 at9 true (cells ++ [v])) := Lib.hid (hR8.out.step (Or.inl ⟨hv, rfl⟩))
                  have HCL : Hid ((cells.map zagOf).length = t) := Lib.hid (by rw [List.length_map, hcl])
                  have e1 : ((at9 : Int) < 0) = False := eq_false (by omega)
                  obtain ⟨q, hq⟩ : ∃ q, v / 2 = q := ⟨_, rfl⟩
                  have e2 : (v : Int) / 2 = (q : Int) := by omega
                  have c4 := hM1.cell 4
                  have hbo := hown1.base_le
                  clear hS1 hN1 hbw1 hv hR8
                  by_cases hodd : v % 2 = 1
                  · have e3 : ((v : Int) % 2 == 1) = true := by rw [beq_iff_eq]; omega
                    have HZ : Hid (zagOf v = -(q : Int) - 1) := Lib.hid (by unfold zagOf; rw [if_pos hodd, hq])
                    have hq2 : (q : Int) ≤ 4611686018427387904 := by omega
                    clear hodd hq hv63
                    go_wp2_with (at_builtin; go_must (refine wpList_push rfl (.tmp 87) (.tmp 89) 22 rfl Form.int (M + 1) noK 3 j0 (.int .i64 0) 8 Tryd.underlying22 hj hy0 hy1 hy2 rfl (by decide) vs (cells.map zagOf) rfl (hown1.keep ((Below.refl _ _).alloc (Nat.le_refl _) _)) w1.heap.size 1 [.int .i64 (-(q : Int) - 1)] 3 (-(q : Int) - 1) rfl (Box.new _ _ _) rfl (by rw [HCL.out]; omega) (by rw [HCL.out]; unfold maxLen; omega) (by simp; omega) _ rfl ?_))
                    intro g cap wG hownG hgrow hlies hgs
                    have hBG := Box.grown (hM1.keep ((by repeat (first | fail | (with_reducible exact Below.refl _ _) | (with_reducible refine Below.al ?_ _) | (with_reducible refine Below.drN ?_ _) | (with_reducible refine Below.drew ?_) | (with_reducible refine Below.st ?_ ?_ _; rotate_left 1; (first | (dsimp only; omega) | omega | (simp; omega) | simp)) | exact Below.refl _ _)) : Below w1.heap.size w1 (w1.alloc (.cells #[.int .i64 (-(q : Int) - 1)] 3)))) hgrow (fun e => by have := (hbo _ e.symm).1; omega)
                    have cG := hBG.cell 4
                    have fG := hBG.thawed 4
                    have hbG : Below wo.heap.size wo wG := Below.grown ((by repeat (first | fail | (with_reducible exact Below.refl _ _) | (with_reducible exact hb1w) | (with_reducible refine Below.al ?_ _) | (with_reducible refine Below.drN ?_ _) | (with_reducible refine Below.drew ?_) | (with_reducible refine Below.st ?_ ?_ _; rotate_left 1; (first | (dsimp only; omega) | omega | (simp; omega) | simp)) | exact Below.refl _ _ | exact hb1w)) : Below wo.heap.size wo (w1.alloc (.cells #[.int .i64 (-(q : Int) - 1)] 3))) hgrow (by have h1 := hb1w.size; simp; omega) (fun c hc => by have := (hbo c hc).1; omega)
                    have hgB := (hownG.base_le g rfl).1
                    have hsG : M + 1 ≤ wG.heap.size := by have h1 := hgrow.size; simp at h1; omega
                    try rw [HCL.out] at hownG
                    try rw [List.length_map] at hownG
                    try rw [hcl] at hownG
                    have hBF : Box (wG.setCell ⟨M, 4, none⟩ (.slice (some ⟨g, 0, none⟩) (t + 1) cap)) M [.int .i64 (v1 : Int), .int .i64 (v2 : Int), .int .i64 (v4 : Int), .int .i64 (v5 : Int), .slice (some ⟨g, 0, none⟩) (t + 1) cap] 26 := hBG.set 4 _
                    have hownF : OwnRow Form.int 3 (wG.setCell ⟨M, 4, none⟩ (.slice (some ⟨g, 0, none⟩) (t + 1) cap)) (M + 1) noK (.slice (some ⟨g, 0, none⟩) (t + 1) cap) ((cells ++ [v]).map zagOf) := by
                      rw [List.map_append, List.map_cons, List.map_nil, HZ.out]
                      exact hownG.set (fun e => by simp [Value.ownBlock] at e; omega) (fun hh => hh.elim) _
                    have hbF : Below wo.heap.size wo (wG.setCell ⟨M, 4, none⟩ (.slice (some ⟨g, 0, none⟩) (t + 1) cap)) := hbG.setCell (by dsimp only; omega) _
                    have hsF : M + 1 ≤ (wG.setCell ⟨M, 4, none⟩ (.slice (some ⟨g, 0, none⟩) (t + 1) cap)).heap.size := by simpa [World.setCell] using hsG
                    have HALL := Lib.hid (And.intro hBF (And.intro hownF (And.intro hbF hsF)))
                    clear hBF hownF hbF hsF hgB hbG hsG hownG hgrow hlies hgs hBG hM1 hown1 hb1w hbo
                    go_wp2
                    go_roundw
                    case rel => exact ⟨t + 1, at9, _, cells ++ [v], by omega, by go_num, rfl, hhi, by rw [List.length_append, hcl]; rfl, HR9, HALL.out.1, HALL.out.2.1, HALL.out.2.2.1, HALL.out.2.2.2⟩
                    case measure => simp [intOf]; omega
                  · have e3 : ((v : Int) % 2 == 1) = false := by rw [beq_eq_false_iff_ne]; omega
                    have HZ : Hid (zagOf v = (q : Int)) := Lib.hid (by unfold zagOf; rw [if_neg hodd, hq])
                    have hq2 : (q : Int) ≤ 4611686018427387904 := by omega
                    clear hodd hq hv63
                    go_wp2_with (at_builtin; go_must (refine wpList_push rfl (.tmp 87) (.tmp 89) 22 rfl Form.int (M + 1) noK 3 j0 (.int .i64 0) 8 Tryd.underlying22 hj hy0 hy1 hy2 rfl (by decide) vs (cells.map zagOf) rfl (hown1.keep ((Below.refl _ _).alloc (Nat.le_refl _) _)) w1.heap.size 1 [.int .i64 ((q : Int))] 3 ((q : Int)) rfl (Box.new _ _ _) rfl (by rw [HCL.out]; omega) (by rw [HCL.out]; unfold maxLen; omega) (by simp; omega) _ rfl ?_))
                    intro g cap wG hownG hgrow hlies hgs
                    have hBG := Box.grown (hM1.keep ((by repeat (first | fail | (with_reducible exact Below.refl _ _) | (with_reducible refine Below.al ?_ _) | (with_reducible refine Below.drN ?_ _) | (with_reducible refine Below.drew ?_) | (with_reducible refine Below.st ?_ ?_ _; rotate_left 1; (first | (dsimp only; omega) | omega | (simp; omega) | simp)) | exact Below.refl _ _)) : Below w1.heap.size w1 (w1.alloc (.cells #[.int .i64 ((q : Int))] 3)))) hgrow (fun e => by have := (hbo _ e.symm).1; omega)
                    have cG := hBG.cell 4
                    have fG := hBG.thawed 4
                    have hbG : Below wo.heap.size wo wG := Below.grown ((by repeat (first | fail | (with_reducible exact Below.refl _ _) | (with_reducible exact hb1w) | (with_reducible refine Below.al ?_ _) | (with_reducible refine Below.drN ?_ _) | (with_reducible refine Below.drew ?_) | (with_reducible refine Below.st ?_ ?_ _; rotate_left 1; (first | (dsimp only; omega) | omega | (simp; omega) | simp)) | exact Below.refl _ _ | exact hb1w)) : Below wo.heap.size wo (w1.alloc (.cells #[.int .i64 ((q : Int))] 3))) hgrow (by have h1 := hb1w.size; simp; omega) (fun c hc => by have := (hbo c hc).1; omega)
                    have hgB := (hownG.base_le g rfl).1
                    have hsG : M + 1 ≤ wG.heap.size := by have h1 := hgrow.size; simp at h1; omega
                    try rw [HCL.out] at hownG
                    try rw [List.length_map] at hownG
                    try rw [hcl] at hownG
                    have hBF : Box (wG.setCell ⟨M, 4, none⟩ (.slice (some ⟨g, 0, none⟩) (t + 1) cap)) M [.int .i64 (v1 : Int), .int .i64 (v2 : Int), .int .i64 (v4 : Int), .int .i64 (v5 : Int), .slice (some ⟨g, 0, none⟩) (t + 1) cap] 26 := hBG.set 4 _
                    have hownF : OwnRow Form.int 3 (wG.setCell ⟨M, 4, none⟩ (.slice (some ⟨g, 0, none⟩) (t + 1) cap)) (M + 1) noK (.slice (some ⟨g, 0, none⟩) (t + 1) cap) ((cells ++ [v]).map zagOf) := by
                      rw [List.map_append, List.map_cons, List.map_nil, HZ.out]
                      exact hownG.set (fun e => by simp [Value.ownBlock] at e; omega) (fun hh => hh.elim) _
                    have hbF : Below wo.heap.size wo (wG.setCell ⟨M, 4, none⟩ (.slice (some ⟨g, 0, none⟩) (t + 1) cap)) := hbG.setCell (by dsimp only; omega) _
                    have hsF : M + 1 ≤ (wG.setCell ⟨M, 4, none⟩ (.slice (some ⟨g, 0, none⟩) (t + 1) cap)).heap.size := by simpa [World.setCell] using hsG
                    have HALL := Lib.hid (And.intro hBF (And.intro hownF (And.intro hbF hsF)))
                    clear hBF hownF hbF hsF hgB hbG hsG hownG hgrow hlies hgs hBG hM1 hown1 hb1w hbo
                    go_wp2
                    go_roundw
                    case rel => exact ⟨t + 1, at9, _, cells ++ [v], by omega, by go_num, rfl, hhi, by rw [List.length_append, hcl]; rfl, HR9, HALL.out.1, HALL.out.2.1, HALL.out.2.2.1, HALL.out.2.2.2⟩
                    case measure => simp [intOf]; omega
                · have HNO : Hid (msgRead bs = none) := Lib.hid (by
                    have h1 : RdN bs (t + 1) at7 at8 false (cells ++ [0]) := hR8.out.step (Or.inr ⟨hv, rfl⟩)
                    rcases h1 with ⟨_, h1⟩ | ⟨h1, _⟩
                    · cases h1
                    · refine msgRead_cells HN4.out HB4.out ?_
                      rw [HP.out, show P = (t + 1) + (P - (t + 1)) by omega]
                      exact readN_more _ h1)
                  clear hv hM1 hown1 hs1 hb1w
                  -- the way out: hS1 the result's box, hN1 the empty one's, hbw1 Below
                  have n0 := Box.cell hN1 0
                  have n1 := Box.cell hN1 1
                  have n2 := Box.cell hN1 2
                  have n3 := Box.cell hN1 3
                  have n4 := Box.cell hN1 4
                  have s0 := Box.cell hS1 0
                  have s1 := Box.cell hS1 1
                  have s2 := Box.cell hS1 2
                  have s3 := Box.cell hS1 3
                  have s4 := Box.cell hS1 4
                  have f0 := Box.thawed hS1 0
                  have f1 := Box.thawed hS1 1
                  have f2 := Box.thawed hS1 2
                  have f3 := Box.thawed hS1 3
                  have f4 := Box.thawed hS1 4
                  have bz := (((((Box.set hS1 0 (.int .i64 0)).set 1 (.int .i64 0)).set 2 (.int .i64 0)).set 3 (.int .i64 0)).set 4 (.slice none 0 0))
                  have z0 := bz.cell 0
                  have z1 := bz.cell 1
                  have z2 := bz.cell 2
                  have z3 := bz.cell 3
                  have z4 := bz.cell 4
                  go_wp2
                  refine bodyPost_ret (v := .tuple #[.agg #[.int .i64 0, .int .i64 0, .int .i64 0, .int .i64 0, .slice none 0 0], .int .i64 (-1)]) (by simp [results, Tryd.results21, go_sem, z0, z1, z2, z3, z4]) rfl ⟨_, ⟨0, 0, ⟨0, 0, []⟩⟩, -1, rfl, ⟨none, 0, 0, 0, 0, rfl, (RowAt.nil Form.int _ anyB).ints⟩, (by repeat (first | fail | (with_reducible exact Below.refl _ _) | (with_reducible exact hbw1) | (with_reducible refine Below.al ?_ _) | (with_reducible refine Below.drN ?_ _) | (with_reducible refine Below.drew ?_) | (with_reducible refine Below.st ?_ ?_ _; rotate_left 1; (first | (dsimp only; omega) | omega | (simp; omega) | simp)) | exact Below.refl _ _ | exact hbw1)), Or.inr ⟨HNO.out, rfl, rfl⟩⟩
              · obtain rfl : P = t := by omega
                have g1 : ((P : Int) < (P : Int)) = False := eq_false (by omega)
                have hmul := HMUL.out
                rw [show ((4 : Nat) : Int) = (4 : Int) from rfl]
                have hML : (cells.map zagOf).length = P := by rw [List.length_map, hcl]
                obtain ⟨av, cv, bv, hvs, hbv, hrw⟩ := hown.row (G := anyB) (fun _ _ _ => trivial) (fun _ _ => trivial)
                rw [hML] at hvs hrw hbv
                subst hvs
                have hiv := hrw.ints
                obtain ⟨FA, hFA⟩ : ∃ FA, msgFault (msgOf v1 v2 v4 v5 cells) = FA := ⟨_, rfl⟩
                have hft : ∀ W, IntsAt W av P cv bv 0 (cells.map zagOf) → Calls Tryd.prog 10 #[.agg #[.int .i64 (v1 : Int), .int .i64 (v2 : Int), .int .i64 (v4 : Int), .int .i64 (v5 : Int), .slice av P cv]] W fun e w' => e = .returned (.int .i64 FA) ∧ Below W.heap.size W w' := fun W hW => by rw [← hFA]; exact refMsgFault_any (msgOf v1 v2 v4 v5 cells) av P cv bv 0 W hW
                have HFA := Lib.hid hFA
                have c0 := hMb.cell 0
                have c1 := hMb.cell 1
                have c2 := hMb.cell 2
                have c3 := hMb.cell 3
                have c4 := hMb.cell 4
                clear hown hrw hFA hS8 hN8 ht
                go_wp2
                go_quiet (fail)
                obtain ⟨wp, hwp⟩ : ∃ wp, wr.drewN nq = wp := ⟨_, rfl⟩
                have hMp : Box wp M [.int .i64 (v1 : Int), .int .i64 (v2 : Int), .int .i64 (v4 : Int), .int .i64 (v5 : Int), .slice av P cv] 26 := by rw [← hwp]; exact hMb.drewN nq
                have hbp : Below wo.heap.size wo wp := by rw [← hwp]; exact (by repeat (first | fail | (with_reducible exact Below.refl _ _) | (with_reducible exact hby) | (with_reducible refine Below.al ?_ _) | (with_reducible refine Below.drN ?_ _) | (with_reducible refine Below.drew ?_) | (with_reducible refine Below.st ?_ ?_ _; rotate_left 1; (first | (dsimp only; omega) | omega | (simp; omega) | simp)) | exact Below.refl _ _ | exact hby))
                have hivp : IntsAt wp av P cv bv 0 (cells.map zagOf) := hiv.keep (by rw [← hwp]; exact ((by repeat (first | fail | (with_reducible exact Below.refl _ _) | (with_reducible refine Below.al ?_ _) | (with_reducible refine Below.drN ?_ _) | (with_reducible refine Below.drew ?_) | (with_reducible refine Below.st ?_ ?_ _; rotate_left 1; (first | (dsimp only; omega) | omega | (simp; omega) | simp)) | exact Below.refl _ _)) : Below wr.heap.size wr (wr.drewN nq)))
                rw [hwp]
                clear hwp hMb hby hsy hiv hbw hLy c0 c1 c2 c3 c4 l2 l3 hmul g1
                have c0 := hMp.cell 0
                have c1 := hMp.cell 1
                have c2 := hMp.cell 2
                have c3 := hMp.cell 3
                have c4 := hMp.cell 4
                go_wp2_with fail
                refine (hft wp hivp).mono ?_
                rintro e w1 ⟨rfl, hb1⟩
                have hM1 := hMp.keep hb1
                have hb1w : Below wo.heap.size wo w1 := hbp.trans (hb1.mono hbp.size)
                have hS1 := hS.keep hb1w
                have hN1 := hN.keep hb1w
                have hbw1 : Below w.heap.size w w1 := hb.trans (hb1w.mono hb.size)
                have hiv1 := hivp.keep hb1
                have hc : readN bs (v4 * v5) at7 = some (cells, at8) := by
                  rw [HP.out]
                  rcases hR8.out with ⟨h1, _⟩ | ⟨_, h1⟩
                  · exact h1
                  · cases h1
                have hat8b : at8 ≤ 3000 := by
                  have h1 := (readN_end HN4.out).2.2.2.1
                  have h2 := (readN_end hc).2.2.2.1
                  rw [HP.out] at h2
                  omega
                have HC := Lib.hid (msgRead_at HN4.out HB4.out hc)
                clear c0 c1 c2 c3 c4 hft hivp hMp hbp hb1 hb1w hc hR8
                by_cases hz : FA = 0
                · subst hz
                  by_cases hlen : at8 + 2 ≤ n
                  · have g1 : ((at8 : Int) + 2 > (n : Int)) = False := eq_false (by omega)
                    have hrow1 : RowAt Form.u8 w1 F a n k b o bs := HI.out.keep hbw1
                    have hcapn := hrow1.le
                    have hrt := hrow1.firstk (k := at8) (by omega)
                    have l0 : (0 : Int) ≤ (at8 : Int) := by omega
                    have l1 : (at8 : Int) ≤ (k : Int) := by omega
                    obtain rfl := HI.out.ptr (by omega)
                    obtain ⟨S1, hS1e⟩ : ∃ S1, (prgSums (bs.take at8)).1 = S1 := ⟨_, rfl⟩
                    obtain ⟨S2, hS2e⟩ : ∃ S2, (prgSums (bs.take at8)).2 = S2 := ⟨_, rfl⟩
                    have hst := refSumsOf_any (bs.take at8) (some ⟨b, o, none⟩) at8 k b o F w1 hrt (by omega)
                    rw [hS1e, hS2e] at hst
                    have HS1 := Lib.hid hS1e
                    have HS2 := Lib.hid hS2e
                    clear hS1e hS2e
                    go_wp2_with fail
                    refine hst.mono ?_
                    rintro e w2 ⟨g, rfl, hg, hrS, hb2⟩
                    have hM2 := hM1.keep hb2
                    have hS2 := hS1.keep hb2
                    have hN2 := hN1.keep hb2
                    have hbw2 : Below w.heap.size w w2 := hbw1.trans (hb2.mono hbw1.size)
                    have hiv2 := hiv1.keep hb2
                    have hrow2 := hrow1.keep hb2
                    obtain ⟨X1, hX1⟩ : ∃ X1, bt bs at8 = X1 := ⟨_, rfl⟩
                    obtain ⟨X2, hX2⟩ : ∃ X2, bt bs (at8 + 1) = X2 := ⟨_, rfl⟩
                    have x1 := (u8_cell hrow2 (i := at8) (by omega)).1
                    have x2 := (u8_cell hrow2 (i := at8 + 1) (by omega)).1
                    rw [hX1] at x1
                    rw [hX2] at x2
                    have s1 := (u8_cell hrS (i := 0) (by omega)).1
                    have s2 := (u8_cell hrS (i := 1) (by omega)).1
                    rw [show bt [S1, S2] 0 = S1 from rfl] at s1
                    rw [show bt [S1, S2] 1 = S2 from rfl] at s2
                    simp only [Nat.zero_add] at s1 s2
                    have p0 : (at8 : Int) < (n : Int) := by omega
                    have p1 : (at8 : Int) + 1 < (n : Int) := by omega
                    have p2 : (0 : Int) ≤ (at8 : Int) + 1 := by omega
                    have HX1 := Lib.hid hX1
                    have HX2 := Lib.hid hX2
                    clear hM1 hS1 hN1 hbw1 hiv1 hrow1 hrt hst hrS hb2 hrow2 hX1 hX2 g1
                    by_cases q1 : S1 = X1
                    · have e5 : ((S1 : Int) != (X1 : Int)) = false := by rw [bne_eq_false_iff_eq]; omega
                      by_cases q2 : S2 = X2
                      · have e6 : ((S2 : Int) != (X2 : Int)) = false := by rw [bne_eq_false_iff_eq]; omega
                        go_wp2
                        go_quiet (fail)
                        obtain ⟨wp, hwp⟩ : ∃ wp, w2.drewN nq = wp := ⟨_, rfl⟩
                        have hSp : Box wp w.heap.size [.int .i64 0, .int .i64 0, .int .i64 0, .int .i64 0, .slice none 0 0] 26 := by rw [← hwp]; exact hS2.drewN nq
                        have hMp : Box wp M [.int .i64 (v1 : Int), .int .i64 (v2 : Int), .int .i64 (v4 : Int), .int .i64 (v5 : Int), .slice av P cv] 26 := by rw [← hwp]; exact hM2.drewN nq
                        have hbp : Below w.heap.size w wp := by rw [← hwp]; exact (by repeat (first | fail | (with_reducible exact Below.refl _ _) | (with_reducible exact hbw2) | (with_reducible refine Below.al ?_ _) | (with_reducible refine Below.drN ?_ _) | (with_reducible refine Below.drew ?_) | (with_reducible refine Below.st ?_ ?_ _; rotate_left 1; (first | (dsimp only; omega) | omega | (simp; omega) | simp)) | exact Below.refl _ _ | exact hbw2))
                        have HYES : Hid (msgRead bs = some (msgOf v1 v2 v4 v5 cells, at8 + 2)) := Lib.hid (by
                          rw [HC.out, HL.out, if_neg (by rw [HFA.out]; omega)]
                          refine if_pos ?_
                          rw [HS1.out, HS2.out, q1, q2, ← HX1.out, ← HX2.out]
                          rfl)
                        have hivp' : IntsAt wp av P cv bv 0 (cells.map zagOf) := hiv2.keep (by rw [← hwp]; exact ((by repeat (first | fail | (with_reducible exact Below.refl _ _) | (with_reducible refine Below.al ?_ _) | (with_reducible refine Below.drN ?_ _) | (with_reducible refine Below.drew ?_) | (with_reducible refine Below.st ?_ ?_ _; rotate_left 1; (first | (dsimp only; omega) | omega | (simp; omega) | simp)) | exact Below.refl _ _)) : Below w2.heap.size w2 (w2.drewN nq)))
                        rw [hwp]
                        clear hwp hM2 hS2 hN2 hbw2 x1 x2 s1 s2 hiv2
                        have hivp : IntsAt wp av P cv bv 0 (cells.map zagOf) := hivp'
                        have hne : 0 < P → w.heap.size + 1 ≤ bv := fun h0 => by have h1 := hbv h0; have h2 := hb.size; omega
                        have n0 := hMp.cell 0
                        have n1 := hMp.cell 1
                        have n2 := hMp.cell 2
                        have n3 := hMp.cell 3
                        have n4 := hMp.cell 4
                        have s0 := hSp.cell 0
                        have s1 := hSp.cell 1
                        have s2 := hSp.cell 2
                        have s3 := hSp.cell 3
                        have s4 := hSp.cell 4
                        have f0 := hSp.thawed 0
                        have f1 := hSp.thawed 1
                        have f2 := hSp.thawed 2
                        have f3 := hSp.thawed 3
                        have f4 := hSp.thawed 4
                        have bz := (((((Box.set hSp 0 (.int .i64 (v1 : Int))).set 1 (.int .i64 (v2 : Int))).set 2 (.int .i64 (v4 : Int))).set 3 (.int .i64 (v5 : Int))).set 4 (.slice av P cv))
                        have z0 := bz.cell 0
                        have z1 := bz.cell 1
                        have z2 := bz.cell 2
                        have z3 := bz.cell 3
                        have z4 := bz.cell 4
                        go_wp2
                        refine bodyPost_ret (v := .tuple #[.agg #[.int .i64 (v1 : Int), .int .i64 (v2 : Int), .int .i64 (v4 : Int), .int .i64 (v5 : Int), .slice av P cv], .int .i64 ((at8 : Int) + 2)]) (by simp [results, Tryd.results21, go_sem, z0, z1, z2, z3, z4]) rfl ⟨_, msgOf v1 v2 v4 v5 cells, (at8 : Int) + 2, rfl, ⟨av, P, cv, bv, 0, rfl, ?_⟩, (by repeat (first | fail | (with_reducible exact Below.refl _ _) | (with_reducible exact hbp) | (with_reducible refine Below.al ?_ _) | (with_reducible refine Below.drN ?_ _) | (with_reducible refine Below.drew ?_) | (with_reducible refine Below.st ?_ ?_ _; rotate_left 1; (first | (dsimp only; omega) | omega | (simp; omega) | simp)) | exact Below.refl _ _ | exact hbp)), Or.inl ⟨by rw [HYES.out]; rfl, by omega⟩⟩
                        exact (by repeat (first | fail | (with_reducible exact hivp) | (with_reducible refine IntsAt.alloc ?_ _) | (with_reducible refine IntsAt.drewN ?_ _) | (with_reducible refine IntsAt.drew ?_) | (with_reducible refine IntsAt.set ?_ ?_ _; rotate_left 1; (intro h0; have hq0 := hne h0; first | (dsimp only; omega) | omega | (simp; omega) | simp)) | exact hivp))
                      · have e6 : ((S2 : Int) != (X2 : Int)) = true := by rw [bne_iff_ne]; omega
                        go_wp2
                        go_quiet (fail)
                        obtain ⟨wp, hwp⟩ : ∃ wp, w2.drewN nq = wp := ⟨_, rfl⟩
                        have hSp : Box wp w.heap.size [.int .i64 0, .int .i64 0, .int .i64 0, .int .i64 0, .slice none 0 0] 26 := by rw [← hwp]; exact hS2.drewN nq
                        have hNp : Box wp (w.heap.size + 1) [.int .i64 0, .int .i64 0, .int .i64 0, .int .i64 0, .slice none 0 0] 26 := by rw [← hwp]; exact hN2.drewN nq
                        have hbp : Below w.heap.size w wp := by rw [← hwp]; exact (by repeat (first | fail | (with_reducible exact Below.refl _ _) | (with_reducible exact hbw2) | (with_reducible refine Below.al ?_ _) | (with_reducible refine Below.drN ?_ _) | (with_reducible refine Below.drew ?_) | (with_reducible refine Below.st ?_ ?_ _; rotate_left 1; (first | (dsimp only; omega) | omega | (simp; omega) | simp)) | exact Below.refl _ _ | exact hbw2))
                        have HNO : Hid (msgRead bs = none) := Lib.hid (by
                          rw [HC.out, HL.out, if_neg (by rw [HFA.out]; omega)]
                          refine if_neg (fun hh => ?_)
                          rw [HS1.out, HS2.out] at hh
                          simp only [List.cons.injEq, and_true] at hh
                          exact q2 (hh.2.trans (by rw [← HX2.out]; rfl)))
                        rw [hwp]
                        clear hwp hM2 hiv2 hS2 hN2 hbw2 x1 x2 s1 s2
                        -- the way out: hSp the result's box, hNp the empty one's, hbp Below
                        have n0 := Box.cell hNp 0
                        have n1 := Box.cell hNp 1
                        have n2 := Box.cell hNp 2
                        have n3 := Box.cell hNp 3
                        have n4 := Box.cell hNp 4
                        have s0 := Box.cell hSp 0
                        have s1 := Box.cell hSp 1
                        have s2 := Box.cell hSp 2
                        have s3 := Box.cell hSp 3
                        have s4 := Box.cell hSp 4
                        have f0 := Box.thawed hSp 0
                        have f1 := Box.thawed hSp 1
                        have f2 := Box.thawed hSp 2
                        have f3 := Box.thawed hSp 3
                        have f4 := Box.thawed hSp 4
                        have bz := (((((Box.set hSp 0 (.int .i64 0)).set 1 (.int .i64 0)).set 2 (.int .i64 0)).set 3 (.int .i64 0)).set 4 (.slice none 0 0))
                        have z0 := bz.cell 0
                        have z1 := bz.cell 1
                        have z2 := bz.cell 2
                        have z3 := bz.cell 3
                        have z4 := bz.cell 4
                        go_wp2
                        refine bodyPost_ret (v := .tuple #[.agg #[.int .i64 0, .int .i64 0, .int .i64 0, .int .i64 0, .slice none 0 0], .int .i64 (-1)]) (by simp [results, Tryd.results21, go_sem, z0, z1, z2, z3, z4]) rfl ⟨_, ⟨0, 0, ⟨0, 0, []⟩⟩, -1, rfl, ⟨none, 0, 0, 0, 0, rfl, (RowAt.nil Form.int _ anyB).ints⟩, (by repeat (first | fail | (with_reducible exact Below.refl _ _) | (with_reducible exact hbp) | (with_reducible refine Below.al ?_ _) | (with_reducible refine Below.drN ?_ _) | (with_reducible refine Below.drew ?_) | (with_reducible refine Below.st ?_ ?_ _; rotate_left 1; (first | (dsimp only; omega) | omega | (simp; omega) | simp)) | exact Below.refl _ _ | exact hbp)), Or.inr ⟨HNO.out, rfl, rfl⟩⟩
                    · have e5 : ((S1 : Int) != (X1 : Int)) = true := by rw [bne_iff_ne]; omega
                      go_wp2
                      go_quiet (fail)
                      obtain ⟨wp, hwp⟩ : ∃ wp, w2.drewN nq = wp := ⟨_, rfl⟩
                      have hSp : Box wp w.heap.size [.int .i64 0, .int .i64 0, .int .i64 0, .int .i64 0, .slice none 0 0] 26 := by rw [← hwp]; exact hS2.drewN nq
                      have hNp : Box wp (w.heap.size + 1) [.int .i64 0, .int .i64 0, .int .i64 0, .int .i64 0, .slice none 0 0] 26 := by rw [← hwp]; exact hN2.drewN nq
                      have hbp : Below w.heap.size w wp := by rw [← hwp]; exact (by repeat (first | fail | (with_reducible exact Below.refl _ _) | (with_reducible exact hbw2) | (with_reducible refine Below.al ?_ _) | (with_reducible refine Below.drN ?_ _) | (with_reducible refine Below.drew ?_) | (with_reducible refine Below.st ?_ ?_ _; rotate_left 1; (first | (dsimp only; omega) | omega | (simp; omega) | simp)) | exact Below.refl _ _ | exact hbw2))
                      have HNO : Hid (msgRead bs = none) := Lib.hid (by
                        rw [HC.out, HL.out, if_neg (by rw [HFA.out]; omega)]
                        refine if_neg (fun hh => ?_)
                        rw [HS1.out, HS2.out] at hh
                        simp only [List.cons.injEq, and_true] at hh
                        exact q1 (hh.1.trans (by rw [← HX1.out]; rfl)))
                      rw [hwp]
                      clear hwp hM2 hiv2 hS2 hN2 hbw2 x1 x2 s1 s2
                      -- the way out: hSp the result's box, hNp the empty one's, hbp Below
                      have n0 := Box.cell hNp 0
                      have n1 := Box.cell hNp 1
                      have n2 := Box.cell hNp 2
                      have n3 := Box.cell hNp 3
                      have n4 := Box.cell hNp 4
                      have s0 := Box.cell hSp 0
                      have s1 := Box.cell hSp 1
                      have s2 := Box.cell hSp 2
                      have s3 := Box.cell hSp 3
                      have s4 := Box.cell hSp 4
                      have f0 := Box.thawed hSp 0
                      have f1 := Box.thawed hSp 1
                      have f2 := Box.thawed hSp 2
                      have f3 := Box.thawed hSp 3
                      have f4 := Box.thawed hSp 4
                      have bz := (((((Box.set hSp 0 (.int .i64 0)).set 1 (.int .i64 0)).set 2 (.int .i64 0)).set 3 (.int .i64 0)).set 4 (.slice none 0 0))
                      have z0 := bz.cell 0
                      have z1 := bz.cell 1
                      have z2 := bz.cell 2
                      have z3 := bz.cell 3
                      have z4 := bz.cell 4
                      go_wp2
                      refine bodyPost_ret (v := .tuple #[.agg #[.int .i64 0, .int .i64 0, .int .i64 0, .int .i64 0, .slice none 0 0], .int .i64 (-1)]) (by simp [results, Tryd.results21, go_sem, z0, z1, z2, z3, z4]) rfl ⟨_, ⟨0, 0, ⟨0, 0, []⟩⟩, -1, rfl, ⟨none, 0, 0, 0, 0, rfl, (RowAt.nil Form.int _ anyB).ints⟩, (by repeat (first | fail | (with_reducible exact Below.refl _ _) | (with_reducible exact hbp) | (with_reducible refine Below.al ?_ _) | (with_reducible refine Below.drN ?_ _) | (with_reducible refine Below.drew ?_) | (with_reducible refine Below.st ?_ ?_ _; rotate_left 1; (first | (dsimp only; omega) | omega | (simp; omega) | simp)) | exact Below.refl _ _ | exact hbp)), Or.inr ⟨HNO.out, rfl, rfl⟩⟩
                  · have g1 : ((at8 : Int) + 2 > (n : Int)) = True := eq_true (by omega)
                    have HNO : Hid (msgRead bs = none) := Lib.hid (by rw [HC.out, HL.out]; exact if_pos (Or.inr (by omega)))
                    clear hM1 hiv1
                    -- the way out: hS1 the result's box, hN1 the empty one's, hbw1 Below
                    have n0 := Box.cell hN1 0
                    have n1 := Box.cell hN1 1
                    have n2 := Box.cell hN1 2
                    have n3 := Box.cell hN1 3
                    have n4 := Box.cell hN1 4
                    have s0 := Box.cell hS1 0
                    have s1 := Box.cell hS1 1
                    have s2 := Box.cell hS1 2
                    have s3 := Box.cell hS1 3
                    have s4 := Box.cell hS1 4
                    have f0 := Box.thawed hS1 0
                    have f1 := Box.thawed hS1 1
                    have f2 := Box.thawed hS1 2
                    have f3 := Box.thawed hS1 3
                    have f4 := Box.thawed hS1 4
                    have bz := (((((Box.set hS1 0 (.int .i64 0)).set 1 (.int .i64 0)).set 2 (.int .i64 0)).set 3 (.int .i64 0)).set 4 (.slice none 0 0))
                    have z0 := bz.cell 0
                    have z1 := bz.cell 1
                    have z2 := bz.cell 2
                    have z3 := bz.cell 3
                    have z4 := bz.cell 4
                    go_wp2
                    refine bodyPost_ret (v := .tuple #[.agg #[.int .i64 0, .int .i64 0, .int .i64 0, .int .i64 0, .slice none 0 0], .int .i64 (-1)]) (by simp [results, Tryd.results21, go_sem, z0, z1, z2, z3, z4]) rfl ⟨_, ⟨0, 0, ⟨0, 0, []⟩⟩, -1, rfl, ⟨none, 0, 0, 0, 0, rfl, (RowAt.nil Form.int _ anyB).ints⟩, (by repeat (first | fail | (with_reducible exact Below.refl _ _) | (with_reducible exact hbw1) | (with_reducible refine Below.al ?_ _) | (with_reducible refine Below.drN ?_ _) | (with_reducible refine Below.drew ?_) | (with_reducible refine Below.st ?_ ?_ _; rotate_left 1; (first | (dsimp only; omega) | omega | (simp; omega) | simp)) | exact Below.refl _ _ | exact hbw1)), Or.inr ⟨HNO.out, rfl, rfl⟩⟩
                · have e0 : (FA != 0) = true := by rw [bne_iff_ne]; exact hz
                  have HNO : Hid (msgRead bs = none) := Lib.hid (by rw [HC.out]; exact if_pos (Or.inl (by rw [HFA.out]; exact hz)))
                  clear hM1 hiv1 hat8b hz
                  -- the way out: hS1 the result's box, hN1 the empty one's, hbw1 Below
                  have n0 := Box.cell hN1 0
                  have n1 := Box.cell hN1 1
                  have n2 := Box.cell hN1 2
                  have n3 := Box.cell hN1 3
                  have n4 := Box.cell hN1 4
                  have s0 := Box.cell hS1 0
                  have s1 := Box.cell hS1 1
                  have s2 := Box.cell hS1 2
                  have s3 := Box.cell hS1 3
                  have s4 := Box.cell hS1 4
                  have f0 := Box.thawed hS1 0
                  have f1 := Box.thawed hS1 1
                  have f2 := Box.thawed hS1 2
                  have f3 := Box.thawed hS1 3
                  have f4 := Box.thawed hS1 4
                  have bz := (((((Box.set hS1 0 (.int .i64 0)).set 1 (.int .i64 0)).set 2 (.int .i64 0)).set 3 (.int .i64 0)).set 4 (.slice none 0 0))
                  have z0 := bz.cell 0
                  have z1 := bz.cell 1
                  have z2 := bz.cell 2
                  have z3 := bz.cell 3
                  have z4 := bz.cell 4
                  go_wp2
                  refine bodyPost_ret (v := .tuple #[.agg #[.int .i64 0, .int .i64 0, .int .i64 0, .int .i64 0, .slice none 0 0], .int .i64 (-1)]) (by simp [results, Tryd.results21, go_sem, z0, z1, z2, z3, z4]) rfl ⟨_, ⟨0, 0, ⟨0, 0, []⟩⟩, -1, rfl, ⟨none, 0, 0, 0, 0, rfl, (RowAt.nil Form.int _ anyB).ints⟩, (by repeat (first | fail | (with_reducible exact Below.refl _ _) | (with_reducible exact hbw1) | (with_reducible refine Below.al ?_ _) | (with_reducible refine Below.drN ?_ _) | (with_reducible refine Below.drew ?_) | (with_reducible refine Below.st ?_ ?_ _; rotate_left 1; (first | (dsimp only; omega) | omega | (simp; omega) | simp)) | exact Below.refl _ _ | exact hbw1)), Or.inr ⟨HNO.out, rfl, rfl⟩⟩
end Go.Proofs.YtgknjikjjklaiaaDoor
