/- Texts joined: RTrain4, RTrain5, SameL, StaLaw1, SizedG, Sized, Sized2. -/
import Derived.Test.YtgknjikjjklaiaaGreatDoorJ40
import Derived.Test.YtgknjikjjklaiaaGreatDoorJ13
import Derived.Test.YtgknjikjjklaiaaGreatDoorJ24
import Derived.Deep.RegionHeld3
import Derived.Deep.CutBlock
import Derived.Deep.DeepCutAuto
import Derived.Test.YtgknjikjjklaiaaGreatDoorJ51
import Derived.Test.YtgknjikjjklaiaaGreatDoorJ50
import Derived.Test.YtgknjikjjklaiaaGreatDoorJ36
import Derived.Test.YtgknjikjjklaiaaGreatDoorJ19
import Derived.Test.YtgknjikjjklaiaaGreatDoorJ22
import Derived.BigQuiet
import Derived.Test.YtgknjikjjklaiaaGreatDoorJ05
import Derived.Test.YtgknjikjjklaiaaGreatDoorJ08
import Derived.Test.YtgknjikjjklaiaaGreatDoorJ26
section
set_option linter.unusedVariables false
set_option linter.unusedSimpArgs false
set_option linter.unusedSectionVars false
set_option maxRecDepth 100000
namespace Gal
open Go Go.RowKit
theorem mat_nat {m : Mat} (h : m.fault = 0) : ∃ R C : Nat, m.rows = (R : Int) ∧ m.cols = (C : Int) ∧ R ≤ 24 ∧ C ≤ 24 ∧ R * C = m.cells.length := by
 obtain ⟨R, K, xs, rfl, hR, hK, hl, _⟩ := mat_form h
 exact ⟨R, K, rfl, rfl, hR, by omega, hl.symm⟩
end Gal
namespace Go.Proofs.YtgknjikjjklaiaaGreatDoor
open Go.RowKit Gal
set_option maxHeartbeats 8000000
theorem refZeros_any (ls : List Lay) (F : Nat → Prop) (a : Option Addr) (n k b o : Nat) (w : World) (h : RowAt Form.lay w F a n k b o ls) (hf : ∀ i, i < n → (lx ls i).fault = 0) (hn : n ≤ 12) :
  Calls Tryz.prog 54 #[.slice a n k] w fun e w' => ∃ a' k' b', e = .returned (.slice a' n k') ∧ Below w.heap.size w w' ∧ RowAt Form.grd w' anyB a' n k' b' 0 (zeroNet ls) := by
 obtain ⟨i0, hi, hz0, hz1, hz2⟩ := info_parts info_grad
 have hl := h.len
 have HFF := Lib.hid hf
 have HTT : Hid (∀ t, t < n → (zeroNet ls).take (t + 1) = (zeroNet ls).take t ++ [zeroGrd (lx ls t)]) := Lib.hid fun t ht => by
  rw [List.take_add_one]
  congr 1
  rw [gx_get (by rw [zeroNet_length, hl]; exact ht), zeroNet_gx]
  rfl
 have HLEN : Hid (∀ t, t ≤ n → ((zeroNet ls).take t).length = t) := Lib.hid fun t ht => by rw [List.length_take, zeroNet_length, hl]; omega
 have HALL : Hid ((zeroNet ls).take n = zeroNet ls) := Lib.hid (by rw [← hl, ← zeroNet_length]; exact List.take_length)
 clear hf hl
 go_enter Tryz.func54, Tryz.ntmps54
 go_wp2_with fail
 go_loopw [3, 4] (fun u j wr => ∃ (t : Nat) (v : Value), v = u ∧ t ≤ n ∧ j = .int .i64 t ∧ OwnRow Form.grd 84 wr w.heap.size (newB w.heap.size) v ((zeroNet ls).take t) ∧ Below w.heap.size w wr) (fun _ j _ => n - (intOf j).toNat)
 case atStart => exact ⟨0, _, rfl, Nat.zero_le _, rfl, OwnRow.nil _ _ _ _ _, Below.refl _ _⟩
 case round =>
  obtain ⟨t, v, rfl, ht, rfl, hown, hbr⟩ := hrel
  by_cases hlt : t < n
  ·have hltI : (t : Int) < (n : Int) := by omega
   have hlt0 : (0 : Int) ≤ (t : Int) := by omega
   obtain rfl := h.ptr (by omega)
   obtain ⟨a4, n4, k4, b4, o4, a5, n5, k5, b5, o5, c0, c1, c2, c3, c4, c5, c6, x4, x5⟩ := lay_cells (h.keep hbr) hlt
   obtain ⟨_, _, e3, e4, _⟩ := Lay.fault_ok (HFF.out t hlt)
   obtain ⟨R, C, hRr, hCr, hR, hC, hRC⟩ := mat_nat e3
   obtain ⟨Q, D, hQr, hDr, hQ, hD, hQD⟩ := mat_nat e4
   have HZG : Hid (zeroGrd (lx ls t) = ⟨⟨R, C, zeros (R * C)⟩, ⟨Q, D, zeros (Q * D)⟩⟩) := Lib.hid (by unfold zeroGrd zeroMat; rw [hRr, hCr, hQr, hDr, hRC, hQD])
   rw [hRr] at c1
   rw [hCr] at c2
   rw [hQr] at c4
   rw [hDr] at c5
   have HTK := Lib.hid (HTT.out t hlt)
   have HLL := Lib.hid (HLEN.out t ht)
   obtain ⟨wq, rfl⟩ : ∃ wq, wq = wr := ⟨_, rfl⟩
   clear c0 c3 c6 x4 x5 e3 e4 hRr hCr hQr hDr hRC hQD
   have zb := World.block_lt_of_cell? _ _ c1
   go_wp2_with fail
   -- 5: where the new matrix's box comes to lie (slot); c1, c2: the cells' facts; R: rows; C: columns; hR hC: bounds' names hR hC
   go_cut [5] (fun s wx => ∃ M g, s = .pointer (some ⟨M, 0, none⟩) ∧ wq.heap.size ≤ M ∧ Box wx M [.int .i64 ((R : Nat) : Int), .int .i64 ((C : Nat) : Int), .slice (some ⟨g, 0, none⟩) (R * C) (R * C)] 25 ∧ wq.heap.size ≤ g ∧ Box wx g ((zeros (R * C)).map (Value.int .i64)) 3 ∧ Below wq.heap.size wq wx)
   case first =>
    go_region_held3 (fun w' => w'.cell? ⟨b, o + t * 7 + 1, none⟩ = some (.int .i64 ((R : Nat) : Int)) ∧ w'.cell? ⟨b, o + t * 7 + 2, none⟩ = some (.int .i64 ((C : Nat) : Int))) (first | (have hb5x := hb5; exact ⟨cell_keep' ((Below.x1 hb5) : Below wq.heap.size wq _) c1, cell_keep' ((Below.x1 hb5) : Below wq.heap.size wq _) c2⟩) | exact ⟨cell_keep' (Below.x0 : Below wq.heap.size wq _) c1, cell_keep' (Below.x0 : Below wq.heap.size wq _) c2⟩)
     ((go_at_call 36; go_must (refine (blank_any R C hR hC _).mono ?_); go_must (rintro e w5 ⟨g, rfl, hg, hz5, hb5⟩); (try (have hb5a : Below (wq.drew.alloc (Obj.cells #[.int .i64 0, .int .i64 0, .slice none 0 0] 25)).heap.size (wq.drew.alloc (Obj.cells #[.int .i64 0, .int .i64 0, .slice none 0 0] 25)) w5 := hb5; have P13 : Box w5 wq.heap.size [.int .i64 0, .int .i64 0, .slice none 0 0] 25 := Box.keep (Box.new' wq.drew wq.heap.size [.int .i64 0, .int .i64 0, .slice none 0 0] 25 rfl) hb5a; have P13c := P13.cell; have P13f := P13.thawed; have P13z := P13.lt))))
    all_goals (
     have hgz : wq.heap.size ≤ g := by simp at hg; omega
     have hz5l := hz5.lt
     have hw5 : wq.heap.size ≤ w5.heap.size := ((Below.x1 hb5) : Below wq.heap.size wq w5).size
     go_wp2_with fail
     go_meet
     first
     | exact ⟨wq.heap.size, g, rfl, Nat.le_refl _, ((P13.set 0 _).set 1 _).set 2 _, hgz, (((hz5.far (by dsimp only; simp at hg; omega) _).far (by dsimp only; simp at hg; omega) _).far (by dsimp only; simp at hg; omega) _), ((((Below.x1 hb5) : Below wq.heap.size wq w5).setCell (Nat.le_refl _) _).setCell (Nat.le_refl _) _).setCell (Nat.le_refl _) _⟩
     | exact ⟨w5.heap.size, g, rfl, hw5, Box.x0, hgz, hz5.alloc _, (Below.x1 hb5)⟩)
   case rest =>
   obtain ⟨M1, g1, rfl, hM1, X1, hg1, Z1, hbc1⟩ := hcut
   have HOV := Lib.hid hown.base_le
   have hown1 := hown.keep hbc1
   have d4 := cell_keep' hbc1 c4
   have d5 := cell_keep' hbc1 c5
   have hzq := hbc1.size
   obtain ⟨wo, rfl⟩ : ∃ wo, wo = wq := ⟨_, rfl⟩
   obtain ⟨wq, rfl⟩ : ∃ wq, wq = wc := ⟨_, rfl⟩
   clear hown c1 c2 c4 c5 zb
   go_wp2_with fail
   -- 6: where the new matrix's box comes to lie (slot); d4, d5: the cells' facts; Q: rows; D: columns; hQ hD: bounds' names hR hC
   go_cut [6] (fun s wx => ∃ M g, s = .pointer (some ⟨M, 0, none⟩) ∧ wq.heap.size ≤ M ∧ Box wx M [.int .i64 ((Q : Nat) : Int), .int .i64 ((D : Nat) : Int), .slice (some ⟨g, 0, none⟩) (Q * D) (Q * D)] 25 ∧ wq.heap.size ≤ g ∧ Box wx g ((zeros (Q * D)).map (Value.int .i64)) 3 ∧ Below wq.heap.size wq wx)
   case first =>
    go_region_held3 (fun w' => w'.cell? ⟨b, o + t * 7 + 4, none⟩ = some (.int .i64 ((Q : Nat) : Int)) ∧ w'.cell? ⟨b, o + t * 7 + 5, none⟩ = some (.int .i64 ((D : Nat) : Int))) (first | (have hb5x := hb5; exact ⟨cell_keep' ((Below.x1 hb5) : Below wq.heap.size wq _) d4, cell_keep' ((Below.x1 hb5) : Below wq.heap.size wq _) d5⟩) | exact ⟨cell_keep' (Below.x0 : Below wq.heap.size wq _) d4, cell_keep' (Below.x0 : Below wq.heap.size wq _) d5⟩)
     ((go_at_call 36; go_must (refine (blank_any Q D hQ hD _).mono ?_); go_must (rintro e w5 ⟨g, rfl, hg, hz5, hb5⟩); (try (have hb5a : Below (wq.drew.alloc (Obj.cells #[.int .i64 0, .int .i64 0, .slice none 0 0] 25)).heap.size (wq.drew.alloc (Obj.cells #[.int .i64 0, .int .i64 0, .slice none 0 0] 25)) w5 := hb5; have P13 : Box w5 wq.heap.size [.int .i64 0, .int .i64 0, .slice none 0 0] 25 := Box.keep (Box.new' wq.drew wq.heap.size [.int .i64 0, .int .i64 0, .slice none 0 0] 25 rfl) hb5a; have P13c := P13.cell; have P13f := P13.thawed; have P13z := P13.lt))))
    all_goals (
     have hgz : wq.heap.size ≤ g := by simp at hg; omega
     have hz5l := hz5.lt
     have hw5 : wq.heap.size ≤ w5.heap.size := ((Below.x1 hb5) : Below wq.heap.size wq w5).size
     go_wp2_with fail
     go_meet
     first
     | exact ⟨wq.heap.size, g, rfl, Nat.le_refl _, ((P13.set 0 _).set 1 _).set 2 _, hgz, (((hz5.far (by dsimp only; simp at hg; omega) _).far (by dsimp only; simp at hg; omega) _).far (by dsimp only; simp at hg; omega) _), ((((Below.x1 hb5) : Below wq.heap.size wq w5).setCell (Nat.le_refl _) _).setCell (Nat.le_refl _) _).setCell (Nat.le_refl _) _⟩
     | exact ⟨w5.heap.size, g, rfl, hw5, Box.x0, hgz, hz5.alloc _, (Below.x1 hb5)⟩)
   case rest =>
   obtain ⟨M2, g2, rfl, hM2, X2, hg2, Z2, hbc2⟩ := hcut
   have hown2 := hown1.keep hbc2
   have X1' := X1.keep hbc2
   have Z1' := Z1.keep hbc2
   have hzc := hbc2.size
   have hRCm : R * C ≤ maxLen := by have : R * C ≤ 24 * 24 := Nat.mul_le_mul hR hC; unfold maxLen; omega
   have hQDm : Q * D ≤ maxLen := by have : Q * D ≤ 24 * 24 := Nat.mul_le_mul hQ hD; unfold maxLen; omega
   have i1 := zeros_box Z1' hRCm
   have i2 := zeros_box Z2 hQDm
   have k0 := X1'.cell 0
   have k1 := X1'.cell 1
   have k2 := X1'.cell 2
   have m0 := X2.cell 0
   have m1 := X2.cell 1
   have m2 := X2.cell 2
   have hbw : Below w.heap.size w wc := (by repeat (first | (with_reducible first | exact Below.refl _ _ | exact hbr | refine Below.al ?_ _ | refine Below.drN ?_ _ | refine Below.drew ?_ | refine Below.sx ?_ _ | refine Below.go ?_ hbc2 | refine Below.go ?_ hbc1) | exact Below.refl _ _ | exact hbr))
   have hwz := hbr.size
   have q1 : 0 < R * C → newB w.heap.size g1 ∧ v.ownBlock ≠ some g1 := fun _ => ⟨by unfold newB; omega, fun e => by have := (HOV.out g1 e).2; omega⟩
   have q2 : 0 < Q * D → newB w.heap.size g2 ∧ v.ownBlock ≠ some g2 := fun _ => ⟨by unfold newB; omega, fun e => by have := (HOV.out g2 e).2; omega⟩
   have HLM : Hid ((((zeroNet ls).take t).length + 1) * 80 ≤ 140737488355328 ∧ ((zeroNet ls).take t).length + 1 ≤ maxLen) := Lib.hid (by rw [HLL.out]; unfold maxLen; omega)
   clear hown1 X1 Z1 X1' Z1' X2 Z2 hbc1 hbc2 hRCm hQDm d4 d5
   go_wp2_with (at_builtin; refine wpList_push rfl (.tmp 39) (.tmp 43) 26 rfl Form.grd w.heap.size (newB w.heap.size) 84 i0 (.agg #[.int .i64 0, .int .i64 0, .slice none 0 0, .int .i64 0, .int .i64 0, .slice none 0 0]) 80 Tryz.underlying26 hi hz0 hz1 hz2 rfl (by decide) v ((zeroNet ls).take t) rfl ?c1 wc.heap.size 1 [.int .i64 (R : Int), .int .i64 (C : Int), .slice (some ⟨g1, 0, none⟩) (R * C) (R * C), .int .i64 (Q : Int), .int .i64 (D : Int), .slice (some ⟨g2, 0, none⟩) (Q * D) (Q * D)] 84 ⟨⟨R, C, zeros (R * C)⟩, ⟨Q, D, zeros (Q * D)⟩⟩ rfl ?c2 ?c3 ?c4 ?c5 ?c6 _ rfl ?_)
   case c1 => exact OwnRow.keep hown2 Below.x0
   case c2 => exact Box.x0
   case c3 => exact reads_grd (d := ⟨⟨R, C, zeros (R * C)⟩, ⟨Q, D, zeros (Q * D)⟩⟩) (F := fun b => newB w.heap.size b ∧ v.ownBlock ≠ some b) (b := g1) (b' := g2) (o := 0) (o' := 0) q1 i1.k q2 i2.k
   case c4 => exact HLM.out.1
   case c5 => exact HLM.out.2
   case c6 => simp; omega
   intro gN capN wN hownN hgrow hlies hltN
   have hbN : Below w.heap.size w wN := Below.grown (show Below w.heap.size w _ from (Below.y0 hbw)) hgrow (by have := hbw.size; simp; omega) (fun q hq => (HOV.out q hq).1)
   have HALL := Lib.hid (And.intro hownN hbN)
   clear hownN hbN hgrow hlies hltN hown2 hbw hbr k0 k1 k2 m0 m1 m2 i1 i2 q1 q2
   go_wp2
   go_roundw
   case rel => exact ⟨t + 1, _, rfl, by omega, by go_num, by rw [HTK.out, HZG.out]; exact HALL.out.1, HALL.out.2⟩
   case measure => simp [intOf]; omega
  ·obtain rfl : t = n := by omega
   obtain ⟨av, cv, bv, hv, _, hrow⟩ := hown.row (G := anyB) (fun _ _ _ => trivial) (fun _ _ => trivial)
   rw [HLEN.out t (Nat.le_refl _)] at hv hrow
   rw [HALL.out] at hrow
   subst hv
   go_wp2
   go_ret
   exact ⟨av, cv, bv, rfl, hbr, hrow⟩
end Go.Proofs.YtgknjikjjklaiaaGreatDoor
end
section
set_option linter.unusedVariables false
set_option linter.unusedSimpArgs false
set_option linter.unusedSectionVars false
set_option maxRecDepth 100000
namespace Go.Proofs.YtgknjikjjklaiaaGreatDoor
open Go.RowKit Gal
set_option maxHeartbeats 8000000
def RefOneEnd (w : World) (s : Sta) (d : Bat) (p ln kp : Int) (e : Ending) (w' : World) : Prop :=
 ∃ v off, e = .returned (.tuple #[v, .int .i64 off, .int .i64 (oneFault s d p ln kp)]) ∧ Below w.heap.size w w' ∧
  (oneFault s d p ln kp = 0 → off = oneOff s d p ∧ StaNew w.heap.size w' v (oneOf s d p ln kp)) ∧ (oneFault s d p ln kp ≠ 0 → off = 0 ∧ v = .agg #[.slice none 0 0, .slice none 0 0, .int .i64 0])
section
variable (s : Sta) (d : Bat) (p ln kp : Int) (F G : Nat → Prop) (a0 a1 : Option Addr) (n n1 k0 k1 b0 b1 o0 o1 : Nat) (vb : Value) (w : World) (h0 : RowAt Form.lay w F a0 n k0 b0 o0 s.N) (h1 : RowAt Form.grd w G a1 n1 k1 b1 o1 s.V) (hd : BatAt w vb d)
include h0 h1 hd
theorem refOneOf_bad (hf : oneFault s d p ln kp ≠ 0) :
  Calls Tryz.prog 19 #[.agg #[.slice a0 n k0, .slice a1 n1 k1, .int .i64 s.steps], vb, .int .i64 p, .agg #[.int .i64 ln, .int .i64 kp]] w (RefOneEnd w s d p ln kp)
 := by
 obtain ⟨a2, n2, k2, b2, o2, a3, n3, k3, b3, o3, rfl, x0, x1⟩ := hd
 have HF := Lib.hid hf
 have e9 : (oneFault s d p ln kp != 0) = true := by rw [bne_iff_ne]; exact hf
 clear hf
 go_enter Tryz.func19, Tryz.ntmps19
 go_wp2_with fail
 refine (refOneFault_any s d p ln kp F G _ _ _ _ _ _ _ _ _ _ _ _ (h0.alloc _ |>.alloc _ |>.alloc _ |>.alloc _) (h1.alloc _ |>.alloc _ |>.alloc _ |>.alloc _) ⟨a2, n2, k2, b2, o2, a3, n3, k3, b3, o3, rfl, (x0.alloc _ |>.alloc _ |>.alloc _ |>.alloc _), (x1.alloc _ |>.alloc _ |>.alloc _ |>.alloc _)⟩).mono ?_
 rintro e w1 ⟨uP, rfl, hb1, _, huP⟩
 obtain rfl := huP HF.out
 have B4 := ((show Box _ w.heap.size [.slice a0 n k0, .slice a1 n1 k1, .int .i64 s.steps] 47 from Box.x0)).keep hb1
 have B4c := B4.cell
 have B4f := B4.thawed
 have B4z := B4.lt
 have B4k := lt_add B4z
 have B7 := ((show Box _ (w.heap.size + 1 + 1) [.int .i64 ln, .int .i64 kp] 51 from Box.x0)).keep hb1
 have B7c := B7.cell
 have B7f := B7.thawed
 have B7z := B7.lt
 have B7k := lt_add B7z
 have B8 := ((show Box _ (w.heap.size + 1 + 1 + 1) [.slice none 0 0, .slice none 0 0, .int .i64 0] 47 from Box.x0)).keep hb1
 have B8c := B8.cell
 have B8f := B8.thawed
 have B8z := B8.lt
 have B8k := lt_add B8z
 have bz := (((B8.set 0 (.slice none 0 0)).set 1 (.slice none 0 0)).set 2 (.int .i64 0))
 have z0 := bz.cell 0
 have z1 := bz.cell 1
 have z2 := bz.cell 2
 have hbw : Below w.heap.size w w1 := (Below.x1 hb1)
 have hbe : Below w.heap.size w (((w1.setCell ⟨w.heap.size + 1 + 1 + 1, 0, none⟩ (.slice none 0 0)).setCell ⟨w.heap.size + 1 + 1 + 1, 1, none⟩ (.slice none 0 0)).setCell ⟨w.heap.size + 1 + 1 + 1, 2, none⟩ (.int .i64 0)) := ((hbw.setCell (by dsimp only; omega) _).setCell (by dsimp only; omega) _).setCell (by dsimp only; omega) _
 have HBE := Lib.hid hbe
 clear huP h0 h1 x0 x1 bz hbe hb1 hbw
 go_wp2
 refine bodyPost_ret (v := .tuple #[.agg #[.slice none 0 0, .slice none 0 0, .int .i64 0], .int .i64 0, .int .i64 (oneFault s d p ln kp)]) (by simp [results, Tryz.results19, go_sem, z0, z1, z2]) rfl ⟨_, _, rfl, HBE.out, fun h => absurd h HF.out, fun _ => ⟨rfl, rfl⟩⟩
theorem refOneOf_ok (hf : oneFault s d p ln kp = 0) :
  Calls Tryz.prog 19 #[.agg #[.slice a0 n k0, .slice a1 n1 k1, .int .i64 s.steps], vb, .int .i64 p, .agg #[.int .i64 ln, .int .i64 kp]] w (RefOneEnd w s d p ln kp)
 := by
 obtain ⟨a2, n2, k2, b2, o2, a3, n3, k3, b3, o3, rfl, x0, x1⟩ := hd
 have HF := Lib.hid hf
 obtain ⟨f1, f2, _⟩ := oneFault_ok hf
 obtain ⟨hn12, hst0, hst1, hlf, hvl, hvf⟩ := Sta.fault_ok f1
 have hl0 := h0.len
 have hl1 := h1.len
 obtain rfl : n1 = n := by omega
 have HPT := Lib.hid (one_parts hf)
 have HBY : Hid (∀ k, k < p.toNat → gatherFault (byTo s.N d (sizesIn d p) k) (partTurn s.N (partOf d (sizesIn d p) k)) = 0) := Lib.hid (fun k hk => byTo_gather hf hk)
 have HBL : Hid (∀ k, k ≤ p.toNat → (byTo s.N d (sizesIn d p) k).length = n1) := Lib.hid (fun k hk => by rw [(byTo_fits hf k hk).1, hl0])
 have HST := Lib.hid (one_step hf)
 have HL0 := Lib.hid hl0
 have HSS := Lib.hid (And.intro hst0 hst1)
 have HZM : Hid (∀ i, i < n1 → (lx s.N i).W.cells.length * 8 ≤ 140737488355328 ∧ (lx s.N i).B.cells.length * 8 ≤ 140737488355328) := Lib.hid (fun i hi => by
  obtain ⟨_, _, e3, e4, _⟩ := Lay.fault_ok (hlf i (by omega))
  exact ⟨fault_small e3, fault_small e4⟩)
 have hn : n1 ≤ 12 := by omega
 have HLF : Hid (∀ i, i < n1 → (lx s.N i).fault = 0) := Lib.hid (fun i hi => hlf i (by omega))
 obtain ⟨S, hS⟩ : ∃ S, sizesIn d p = S := ⟨_, rfl⟩
 obtain ⟨P, hP⟩ : ∃ P, p.toNat = P := ⟨_, rfl⟩
 have HOF : Hid (oneOff s d p = offTo s.N d S P) := Lib.hid (by unfold oneOff; rw [hS, hP])
 have HON : Hid (oneOf s d p ln kp = ⟨stepLays s.N s.V (byTo s.N d S P) ln kp s.N.length, stepGrds s.N s.V (byTo s.N d S P) kp s.N.length, s.steps + 1⟩) := Lib.hid (by unfold oneOf; rw [hS, hP])
 rw [hS, hP] at HPT HBY HBL HST
 have HSP := Lib.hid (And.intro hS hP)
 have hPb : P ≤ 12 := by have := (splitFault_ok f2).2.2.1; omega
 clear hf f1 f2 hlf hvl hvf hn12 hl0 hl1 hst0 hst1 hS hP
 go_enter Tryz.func19, Tryz.ntmps19
 go_wp2_with fail
 refine (refOneFault_any s d p ln kp F G _ _ _ _ _ _ _ _ _ _ _ _ (h0.alloc _ |>.alloc _ |>.alloc _ |>.alloc _) (h1.alloc _ |>.alloc _ |>.alloc _ |>.alloc _) ⟨a2, n2, k2, b2, o2, a3, n3, k3, b3, o3, rfl, (x0.alloc _ |>.alloc _ |>.alloc _ |>.alloc _), (x1.alloc _ |>.alloc _ |>.alloc _ |>.alloc _)⟩).mono ?_
 rintro e w1 ⟨uP, rfl, hb1, huP, _⟩
 obtain ⟨aL, kL, bL, rfl, rL⟩ := huP HF.out
 rw [HSP.out.1, HSP.out.2] at rL
 rw [HF.out, HSP.out.2]
 have B4 := ((show Box _ w.heap.size [.slice a0 n1 k0, .slice a1 n1 k1, .int .i64 s.steps] 47 from Box.x0)).keep hb1
 have B4c := B4.cell
 have B4f := B4.thawed
 have B4z := B4.lt
 have B4k := lt_add B4z
 have B7 := ((show Box _ (w.heap.size + 1 + 1) [.int .i64 ln, .int .i64 kp] 51 from Box.x0)).keep hb1
 have B7c := B7.cell
 have B7f := B7.thawed
 have B7z := B7.lt
 have B7k := lt_add B7z
 have B8 := ((show Box _ (w.heap.size + 1 + 1 + 1) [.slice none 0 0, .slice none 0 0, .int .i64 0] 47 from Box.x0)).keep hb1
 have B8c := B8.cell
 have B8f := B8.thawed
 have B8z := B8.lt
 have B8k := lt_add B8z
 have hkw1 : Below w.heap.size w w1 := (Below.x1 hb1)
 replace h0 := h0.keep hkw1
 replace h1 := h1.keep hkw1
 have hsw1 := hkw1.size
 clear huP x0 x1
 have e0 : ((0 : Int) != 0) = false := by simp
 go_wp2_with fail
 refine (refZeros_any s.N F _ _ _ _ _ _ h0 HLF.out hn).mono ?_
 rintro e w2 ⟨aZ, kZ, bZ, rfl, hb2, rZ⟩
 have hkw2 : Below w1.heap.size w1 w2 := (Below.x1 hb2)
 replace B4 := B4.keep hkw2
 replace B4c := B4.cell
 replace B4f := B4.thawed
 replace B4z := B4.lt
 replace B4k := lt_add B4z
 replace B7 := B7.keep hkw2
 replace B7c := B7.cell
 replace B7f := B7.thawed
 replace B7z := B7.lt
 replace B7k := lt_add B7z
 replace B8 := B8.keep hkw2
 replace B8c := B8.cell
 replace B8f := B8.thawed
 replace B8z := B8.lt
 replace B8k := lt_add B8z
 replace h0 := h0.keep hkw2
 replace h1 := h1.keep hkw2
 replace rL := rL.keep hkw2
 have hsw2 := hkw2.size
 have hbw2 : Below w.heap.size w w2 := (Below.x2 hb2 hb1)
 have rZ9 : RowAt Form.grd w2 anyB aZ n1 kZ bZ 0 (byTo s.N d S 0) := rZ
 have hwz := hbw2.size
 clear rZ hb1 hb2
 have c40 := B4.cell 0
 go_wp2
 go_loopw [13, 14, 15] (fun u x i wr => ∃ (t : Nat) (aB : Option Addr) (kB bB : Nat), t ≤ P ∧ u = .slice aB n1 kB ∧ x = .int .i64 (offTo s.N d S t) ∧ i = .int .i64 t ∧ RowAt Form.grd wr anyB aB n1 kB bB 0 (byTo s.N d S t) ∧ Below w2.heap.size w2 wr) (fun _ _ i _ => P - (intOf i).toNat)
 case atStart => exact ⟨0, aZ, kZ, bZ, Nat.zero_le _, rfl, rfl, rfl, rZ9, Below.refl _ _⟩
 case round =>
  clear rZ9 c40
  obtain ⟨t, aB, kB, bB, ht, rfl, rfl, rfl, rB, hk⟩ := hrel
  have hbr : Below w.heap.size w wr := hbw2.trans (hk.mono hwz)
  replace B4 := B4.keep hk
  replace B7 := B7.keep hk
  replace B8 := B8.keep hk
  replace h0 := h0.keep hk
  replace h1 := h1.keep hk
  replace rL := rL.keep hk
  have B4c := B4.cell
  have B4z := B4.lt
  clear B7c B7f B7z B7k B8c B8f B8z B8k B4f B4k
  by_cases hlt : t < P
  ·have hltI : (t : Int) < (P : Int) := by omega
   have ht0 : (0 : Int) ≤ (t : Int) := by omega
   obtain ⟨a4, n4, k4, b4, o4, a5, n5, k5, b5, o5, d0, d1, d2, d3, d4, d5, y1, y2⟩ := bat_cells (i := t) (d := partOf d S t) rL (by
    unfold partsTo
    rw [List.getElem?_map, List.getElem?_range hlt]
    rfl)
   simp only [Nat.zero_add] at d0 d1 d2 d3 d4 d5
   have hpk := HPT.out t hlt
   have hby := HBY.out t hlt
   have HBN : Hid (byTo s.N d S (t + 1) = gatherTo (byTo s.N d S t) (partTurn s.N (partOf d S t)) n1) := Lib.hid (by
    show gatherTo (byTo s.N d S t) (partTurn s.N (partOf d S t)) (byTo s.N d S t).length = _
    rw [HBL.out t ht])
   have HON1 : Hid (offTo s.N d S (t + 1) = add (offTo s.N d S t) (partOff s.N (partOf d S t))) := Lib.hid rfl
   obtain ⟨dt, hdt⟩ : ∃ dt, partOf d S t = dt := ⟨_, rfl⟩
   rw [hdt] at d0 d1 d3 d4 y1 y2 hpk hby HBN HON1
   have HPK := Lib.hid hpk
   have HBY1 := Lib.hid hby
   obtain rfl := rL.ptr (by omega)
   clear hdt hpk hby rL
   obtain ⟨mo, hmo⟩ : ∃ mo, partOff s.N dt = mo := ⟨_, rfl⟩
   have HMO := Lib.hid hmo
   rw [hmo] at HON1
   have c40 : wr.cell? ⟨w.heap.size, 0, none⟩ = some (.slice a0 n1 k0) := B4c 0
   have H0 := Lib.hid h0
   have Y := Lib.hid (And.intro y1 y2)
   clear hmo y1 y2
   go_wp2_with fail
   go_cut [16, 17] (fun u5 u6 wx => ∃ aD kD bD, u5 = .slice aD n1 kD ∧ u6 = .int .i64 mo ∧ Below wr.heap.size wr wx ∧ RowAt Form.grd wx anyB aD n1 kD bD 0 (partTurn s.N dt))
   case first =>
    go_region_held3 (fun w' => w'.cell? ⟨w.heap.size, 0, none⟩ = some (.slice a0 n1 k0) ∧ w'.cell? ⟨bL, t * 6, none⟩ = some (.int .i64 dt.I.rows) ∧ w'.cell? ⟨bL, t * 6 + 1, none⟩ = some (.int .i64 dt.I.cols) ∧ w'.cell? ⟨bL, t * 6 + 2, none⟩ = some (.slice a4 n4 k4) ∧ w'.cell? ⟨bL, t * 6 + 3, none⟩ = some (.int .i64 dt.W.rows) ∧ w'.cell? ⟨bL, t * 6 + 4, none⟩ = some (.int .i64 dt.W.cols) ∧ w'.cell? ⟨bL, t * 6 + 5, none⟩ = some (.slice a5 n5 k5)) (first | (have hb5x := hb5; exact ⟨cell_keep' ((Below.x1 hb5) : Below wr.heap.size wr _) c40, cell_keep' ((Below.x1 hb5) : Below wr.heap.size wr _) d0, cell_keep' ((Below.x1 hb5) : Below wr.heap.size wr _) d1, cell_keep' ((Below.x1 hb5) : Below wr.heap.size wr _) d2, cell_keep' ((Below.x1 hb5) : Below wr.heap.size wr _) d3, cell_keep' ((Below.x1 hb5) : Below wr.heap.size wr _) d4, cell_keep' ((Below.x1 hb5) : Below wr.heap.size wr _) d5⟩) | exact ⟨cell_keep' (Below.x0 : Below wr.heap.size wr _) c40, cell_keep' (Below.x0 : Below wr.heap.size wr _) d0, cell_keep' (Below.x0 : Below wr.heap.size wr _) d1, cell_keep' (Below.x0 : Below wr.heap.size wr _) d2, cell_keep' (Below.x0 : Below wr.heap.size wr _) d3, cell_keep' (Below.x0 : Below wr.heap.size wr _) d4, cell_keep' (Below.x0 : Below wr.heap.size wr _) d5⟩)
     ((go_at_call 55; have hbq : Below wr.heap.size wr wr.drew := Below.x0; go_must (refine (refPartOf_any s.N dt F a0 n1 k0 b0 o0 _ _ (H0.out.keep hbq) ⟨a4, n4, k4, b4, o4, a5, n5, k5, b5, o5, rfl, Y.out.1.keep hbq, Y.out.2.keep hbq⟩ HPK.out).mono ?_); go_must (rintro e w5 ⟨aD, kD, bD, rfl, hb5, rD⟩)))
    all_goals (
     go_wp2_with fail
     go_meet
     exact ⟨aD, kD, bD, rfl, by rw [HMO.out], (Below.x1 hb5), rD⟩)
   case rest =>
   obtain ⟨aD, kD, bD, rfl, rfl, hbc, rD⟩ := hcut
   have rB1 := rB.keep hbc
   clear rB d0 d1 d2 d3 d4 d5 c40
   go_wp2_with fail
   refine (refGather_any (byTo s.N d S t) (partTurn s.N dt) _ _ _ _ _ _ _ _ _ _ _ _ wc rB1 rD (by omega)).mono ?_
   rintro e w6 ⟨uH, rfl, hb6, huH, _⟩
   obtain ⟨aH, kH, bH, rfl, rH⟩ := huH HBY1.out
   rw [← HBN.out] at rH
   rw [HBY1.out]
   have hbe : Below w2.heap.size w2 w6 := hk.trans ((hbc.trans (hb6.mono hbc.size)).mono hk.size)
   have rH9 : RowAt Form.grd w6 anyB aH n1 kH bH 0 (byTo s.N d S (t + 1)) := rH.wide (fun _ _ _ => trivial)
   clear huH rH hbc hb6 rB1 rD B4 B4c B4z B7 B8 h0 h1
   go_wp2_with fail
   refine (radd_any _ _ _).mono ?_
   rintro e w16 ⟨rfl, rfl⟩
   rw [← HON1.out]
   go_wp2
   go_roundw
   case rel => exact ⟨t + 1, aH, kH, bH, by omega, rfl, rfl, by go_num, rH9, hbe⟩
   case measure => simp [intOf]; omega
  ·obtain rfl : t = P := by omega
   have c40 := B4.cell 0
   have c41 := B4.cell 1
   have c42 := B4.cell 2
   have c70 := B7.cell 0
   have c71 := B7.cell 1
   clear rL
   have hs9 := HSS.out
   have hsw : wrap64 (s.steps + 1) = s.steps + 1 := by unfold wrap64; omega
   have HSW := Lib.hid hsw
   clear hsw hs9
   have hz : w.heap.size + 4 ≤ wr.heap.size := by have := B8.lt; omega
   go_wp2_with fail
   refine (refStepOf_any s.N s.V (byTo s.N d S t) ln kp F G anyB _ _ _ _ _ _ _ _ _ _ _ _ _ _ _ _ h0 h1 rB HST.out).mono ?_
   rintro e w21 ⟨a9, k9, b9, a8, k8, b8, rfl, hb21, q0, q1⟩
   have hkw21 : Below wr.heap.size wr w21 := (Below.x1 hb21)
   replace B8 := B8.keep hkw21
   replace B8c := B8.cell
   replace B8f := B8.thawed
   replace B8z := B8.lt
   replace B8k := lt_add B8z
   replace B4 := B4.keep hkw21
   replace B4c := B4.cell
   replace B4f := B4.thawed
   replace B4z := B4.lt
   replace B4k := lt_add B4z
   have hsw21 := hkw21.size
   have hsw := HSW.out
   have c42 := B4.cell 2
   have hbw : Below w.heap.size w w21 := (Below.y1 hb21 hbr)
   have d0 := B8.cell 0
   have d1 := B8.cell 1
   have d2 := B8.cell 2
   have bz := ((B8.set 0 (.slice a9 n1 k9)).set 1 (.slice a8 n1 k8)).set 2 (.int .i64 (s.steps + 1))
   have z0 := bz.cell 0
   have z1 := bz.cell 1
   have z2 := bz.cell 2
   have hbe : Below w.heap.size w (((w21.setCell ⟨w.heap.size + 1 + 1 + 1, 0, none⟩ (.slice a9 n1 k9)).setCell ⟨w.heap.size + 1 + 1 + 1, 1, none⟩ (.slice a8 n1 k8)).setCell ⟨w.heap.size + 1 + 1 + 1, 2, none⟩ (.int .i64 (s.steps + 1))) := ((hbw.setCell (by dsimp only; omega) _).setCell (by dsimp only; omega) _).setCell (by dsimp only; omega) _
   have hf9 : Far (fun c => c = w.heap.size + 1 + 1 + 1) w21 (((w21.setCell ⟨w.heap.size + 1 + 1 + 1, 0, none⟩ (.slice a9 n1 k9)).setCell ⟨w.heap.size + 1 + 1 + 1, 1, none⟩ (.slice a8 n1 k8)).setCell ⟨w.heap.size + 1 + 1 + 1, 2, none⟩ (.int .i64 (s.steps + 1))) := (((Far.refl (fun c => c = w.heap.size + 1 + 1 + 1) w21).st (fun _ => rfl) _).st (fun _ => rfl) _).st (fun _ => rfl) _
   have t0 := q0.farS hf9 (fun c hc _ hh => by have h3 : wr.heap.size ≤ c := hc; have h4 : c = w.heap.size + 1 + 1 + 1 := hh; omega)
   have t1 := q1.farS hf9 (fun c hc _ hh => by have h3 : wr.heap.size ≤ c := hc; have h4 : c = w.heap.size + 1 + 1 + 1 := hh; omega)
   have HP := Lib.hid (And.intro hbe (And.intro (t0.wide (G := newB w.heap.size) (fun c hc _ => Nat.le_trans (by omega) hc)) (t1.wide (G := newB w.heap.size) (fun c hc _ => Nat.le_trans (by omega) hc))))
   clear hbe hf9 t0 t1 q0 q1 bz hbw h0 h1 rB B4 B4c B4z B7
   go_wp2
   refine bodyPost_ret (v := .tuple #[.agg #[.slice a9 n1 k9, .slice a8 n1 k8, .int .i64 (s.steps + 1)], .int .i64 (offTo s.N d S t), .int .i64 0]) (by simp [results, Tryz.results19, go_sem, z0, z1, z2]) rfl ⟨_, _, by rw [HF.out], HP.out.1, fun _ => ⟨HOF.out.symm, ?_⟩, fun h => absurd HF.out h⟩
   rw [HON.out]
   have hLN : s.N.length = n1 := HL0.out
   rw [hLN]
   exact ⟨a9, n1, k9, b9, a8, n1, k8, b8, rfl, HP.out.2.1, HP.out.2.2⟩
theorem refOneOf_any :
  Calls Tryz.prog 19 #[.agg #[.slice a0 n k0, .slice a1 n1 k1, .int .i64 s.steps], vb, .int .i64 p, .agg #[.int .i64 ln, .int .i64 kp]] w (RefOneEnd w s d p ln kp)
 := by
 by_cases hf : oneFault s d p ln kp = 0
 ·exact refOneOf_ok s d p ln kp F G a0 a1 n n1 k0 k1 b0 b1 o0 o1 vb w h0 h1 hd hf
 ·exact refOneOf_bad s d p ln kp F G a0 a1 n n1 k0 k1 b0 b1 o0 o1 vb w h0 h1 hd hf
end
end Go.Proofs.YtgknjikjjklaiaaGreatDoor
end
section
set_option linter.unusedVariables false
set_option linter.unusedSimpArgs false
namespace Go.Proofs.YtgknjikjjklaiaaGreatDoor
open Go.RowKit Gal
set_option maxRecDepth 100000 in
set_option maxHeartbeats 4000000 in
theorem layers_same (ls : List Lay) (F G : Nat → Prop) (a0 a1 : Option Addr) (n0 n1 k0 k1 b0 b1 o0 o1 : Nat) (w : World) (h0 : RowAt Form.lay w F a0 n0 k0 b0 o0 ls) (h1 : RowAt Form.lay w G a1 n1 k1 b1 o1 ls) :
  Calls Tryz.prog 24 #[.slice a0 n0 k0, .slice a1 n1 k1] w fun e w' => e = .returned (.bool true) ∧ Below w.heap.size w w' := by
 have m0 := h0.max
 unfold maxLen at m0
 have l0 := h0.len
 obtain rfl : n0 = n1 := by rw [← l0]; exact h1.len
 have hne : ((n0 : Int) != (n0 : Int)) = false := by simp
 go_enter Tryz.func24, Tryz.ntmps24
 go_wp2
 go_loopw [5] (fun i wr => ∃ k : Nat, k ≤ n0 ∧ i = .int .i64 k ∧ Below w.heap.size w wr) (fun i _ => n0 - (intOf i).toNat)
 case atStart => exact ⟨0, Nat.zero_le _, rfl, Below.refl _ _⟩
 case round =>
  obtain ⟨k, hk, rfl, hbr⟩ := hrel
  by_cases hlt : k < n0
  ·have hltI : (k : Int) < (n0 : Int) := by omega
   obtain rfl := h0.ptr (by omega)
   obtain rfl := h1.ptr (by omega)
   obtain ⟨d, hd⟩ : ∃ d, d = lx ls k := ⟨_, rfl⟩
   obtain ⟨p1, p2, p3, p4, p5, p6, p7, p8, p9, p10, cK, c0, c1, c2, c3, c4, c5, y0, y1⟩ := lay_cells (h0.keep hbr) hlt
   obtain ⟨q1, q2, q3, q4, q5, q6, q7, q8, q9, q10, eK, e0, e1, e2, e3, e4, e5, z0, z1⟩ := lay_cells (h1.keep hbr) hlt
   rw [← hd] at cK c0 c1 c3 c4 y0 y1 eK e0 e1 e3 e4 z0 z1
   clear hd
   go_wp2_with fail
   go_region_held3 (fun w' => w'.cell? ⟨b0, o0 + k * 7 + 1, none⟩ = some (.int .i64 d.W.rows) ∧ w'.cell? ⟨b0, o0 + k * 7 + 2, none⟩ = some (.int .i64 d.W.cols) ∧ w'.cell? ⟨b0, o0 + k * 7 + 3, none⟩ = some (.slice p1 p2 p3) ∧ w'.cell? ⟨b1, o1 + k * 7 + 1, none⟩ = some (.int .i64 d.W.rows) ∧ w'.cell? ⟨b1, o1 + k * 7 + 2, none⟩ = some (.int .i64 d.W.cols) ∧ w'.cell? ⟨b1, o1 + k * 7 + 3, none⟩ = some (.slice q1 q2 q3)) (first | exact ⟨cell_keep hb1 c0, cell_keep hb1 c1, cell_keep hb1 c2, cell_keep hb1 e0, cell_keep hb1 e1, cell_keep hb1 e2⟩ | exact ⟨c0, c1, c2, e0, e1, e2⟩) ((go_at_call 43; go_must (refine (matrices_sameM d.W _ _ _ (MatAt.mk (y0.drewN _)) (MatAt.mk (z0.drewN _))).mono ?_); go_must (rintro e w1 ⟨rfl, hb1⟩)))
   have fc3 := cell_keep hb1 c3
   have fc4 := cell_keep hb1 c4
   have fc5 := cell_keep hb1 c5
   have fcK := cell_keep hb1 cK
   have fe3 := cell_keep hb1 e3
   have fe4 := cell_keep hb1 e4
   have fe5 := cell_keep hb1 e5
   have feK := cell_keep hb1 eK
   clear c0 c1 c2 c3 c4 c5 cK e0 e1 e2 e3 e4 e5 eK
   go_wp2_with fail
   go_region_held3 (fun w' => w'.cell? ⟨b0, o0 + k * 7 + 4, none⟩ = some (.int .i64 d.B.rows) ∧ w'.cell? ⟨b0, o0 + k * 7 + 5, none⟩ = some (.int .i64 d.B.cols) ∧ w'.cell? ⟨b0, o0 + k * 7 + 6, none⟩ = some (.slice p6 p7 p8) ∧ w'.cell? ⟨b1, o1 + k * 7 + 4, none⟩ = some (.int .i64 d.B.rows) ∧ w'.cell? ⟨b1, o1 + k * 7 + 5, none⟩ = some (.int .i64 d.B.cols) ∧ w'.cell? ⟨b1, o1 + k * 7 + 6, none⟩ = some (.slice q6 q7 q8)) (first | exact ⟨(cell_keep hb2 fc3) ,(cell_keep hb2 fc4) ,(cell_keep hb2 fc5) ,(cell_keep hb2 fe3) ,(cell_keep hb2 fe4) ,(cell_keep hb2 fe5)⟩ | exact ⟨fc3 ,fc4 ,fc5 ,fe3 ,fe4 ,fe5⟩) ((go_at_call 43; go_must (refine (matrices_sameM d.B _ _ _ (MatAt.mk (show IntsAt _ p6 p7 p8 p9 p10 d.B.cells from (by first | exact y1.k1 hb1 | exact y1.k))) (MatAt.mk (show IntsAt _ q6 q7 q8 q9 q10 d.B.cells from (by first | exact z1.k1 hb1 | exact z1.k)))).mono ?_); go_must (rintro e w2 ⟨rfl, hb2⟩)))
   have hbq : Below w.heap.size w w2 := (by repeat (first | (with_reducible first | exact Below.refl _ _ | exact hbr | refine Below.al ?_ _ | refine Below.drN ?_ _ | refine Below.drew ?_ | refine Below.sx ?_ _ | refine Below.go ?_ hb2 | refine Below.go ?_ hb1) | exact Below.refl _ _ | exact hbr))
   have gcK := cell_keep hb2 fcK
   have geK := cell_keep hb2 feK
   have hkk : (d.kind != d.kind) = false := by simp
   clear fc3 fc4 fc5 fcK fe3 fe4 fe5 feK y0 y1 z0 z1 hb1 hb2
   go_wp2_with fail
   go_quiet (fail)
   go_wp2
   go_roundw
   case rel => exact ⟨k + 1, by omega, by go_num, (Below.y0 hbq)⟩
   case measure => simp [intOf]; omega
  ·go_wp2
   go_ret
   exact ⟨rfl, hbr⟩
end Go.Proofs.YtgknjikjjklaiaaGreatDoor
end
section
set_option linter.unusedVariables false
set_option linter.unusedSimpArgs false
set_option linter.unusedSectionVars false
set_option maxRecDepth 100000
namespace Go.Proofs.YtgknjikjjklaiaaGreatDoor
open Go.RowKit Gal
set_option maxHeartbeats 4000000
theorem lawState1_any (z : Int) (a0 a1 : Option Addr) (n n1 k0 k1 : Nat) (w : World) :
  Calls Tryz.prog 16 #[.agg #[.slice a0 n k0, .slice a1 n1 k1, .int .i64 z]] w fun e w' => e = .returned (.agg #[.slice a0 n k0, .slice a1 n1 k1, .int .i64 z]) ∧ Below w.heap.size w w' := by
 have hB : Box ((w.alloc (.cells #[.slice a0 n k0, .slice a1 n1 k1, .int .i64 z] 47)).alloc (.cells #[.slice a0 n k0, .slice a1 n1 k1, .int .i64 z] 53)) (w.heap.size + 1) [.slice a0 n k0, .slice a1 n1 k1, .int .i64 z] 53 := Box.new' _ _ [.slice a0 n k0, .slice a1 n1 k1, .int .i64 z] _ (by simp)
 have z0 := hB.cell 0
 have z1 := hB.cell 1
 have z2 := hB.cell 2
 go_enter Tryz.func16, Tryz.ntmps16
 go_wp2
 refine bodyPost_ret (v := .agg #[.slice a0 n k0, .slice a1 n1 k1, .int .i64 z]) (by simp [results, Tryz.results16, go_sem, z0, z1, z2]) rfl ⟨rfl, Below.x0⟩
theorem states1_same (s : Sta) (v v' : Value) (w : World) (h : StaV w v s) (h' : StaV w v' s) :
  Calls Tryz.prog 20 #[v, v'] w fun e w' => e = .returned (.bool true) ∧ Below w.heap.size w w' := by
 obtain ⟨a0, n, k0, b0, o0, a1, n1, k1, b1, o1, rfl, h0, h1⟩ := h
 obtain ⟨a2, n2, k2, b2, o2, a3, n3, k3, b3, o3, rfl, h2, h3⟩ := h'
 obtain ⟨z, hz⟩ : ∃ z, s.steps = z := ⟨_, rfl⟩
 rw [hz]
 clear hz
 go_enter Tryz.func20, Tryz.ntmps20
 go_wp2_with fail
 refine (layers_same s.N anyB anyB _ _ _ _ _ _ _ _ _ _ _ (h0.alloc _ |>.alloc _) (h2.alloc _ |>.alloc _)).mono ?_
 rintro e w1 ⟨rfl, hb1⟩
 have B1 := ((show Box _ w.heap.size [.slice a0 n k0, .slice a1 n1 k1, .int .i64 z] 53 from Box.x0)).keep hb1
 have B1c := B1.cell
 have B1f := B1.thawed
 have B1z := B1.lt
 have B1k := lt_add B1z
 have B2 := ((show Box _ (w.heap.size + 1) [.slice a2 n2 k2, .slice a3 n3 k3, .int .i64 z] 47 from Box.x0)).keep hb1
 have B2c := B2.cell
 have B2f := B2.thawed
 have B2z := B2.lt
 have B2k := lt_add B2z
 have hkw1 : Below w.heap.size w w1 := (Below.x1 hb1)
 replace h1 := h1.keep hkw1
 replace h3 := h3.keep hkw1
 have hsw1 := hkw1.size
 go_wp2_with fail
 refine (grads_same s.V anyB anyB _ _ _ _ _ _ _ _ _ _ _ h1 h3).mono ?_
 rintro e w2 ⟨rfl, hb2⟩
 have hkw2 : Below w1.heap.size w1 w2 := (Below.x1 hb2)
 replace B1 := B1.keep hkw2
 replace B1c := B1.cell
 replace B1f := B1.thawed
 replace B1z := B1.lt
 replace B1k := lt_add B1z
 replace B2 := B2.keep hkw2
 replace B2c := B2.cell
 replace B2f := B2.thawed
 replace B2z := B2.lt
 replace B2k := lt_add B2z
 have hsw2 := hkw2.size
 have hbe : Below w.heap.size w w2 := (Below.x2 hb2 hb1)
 have hzz : (z == z) = true := by simp
 clear h0 h1 h2 h3 hb1 hb2
 go_wp2
 go_ret
 exact ⟨rfl, hbe⟩
end Go.Proofs.YtgknjikjjklaiaaGreatDoor
end
section
set_option linter.unusedVariables false
set_option linter.unusedSimpArgs false
set_option linter.unusedSectionVars false
namespace Gal
open Go Go.RowKit Go.ChangeShapes Go.WideShapes Go.Deep
section
variable {P : Program}
def Within (l : List Nat) : Prop := l.all (· ≤ reachBytes) = true
theorem Within.left {l m : List Nat} (h : Within (l ++ m)) : Within l := by unfold Within at *; rw [List.all_append, Bool.and_eq_true] at h; exact h.1
theorem Within.right {l m : List Nat} (h : Within (l ++ m)) : Within m := by unfold Within at *; rw [List.all_append, Bool.and_eq_true] at h; exact h.2
theorem Within.head {n : Nat} {m : List Nat} (h : Within (n :: m)) : n ≤ reachBytes := by unfold Within at *; rw [List.all_cons, Bool.and_eq_true] at h; exact of_decide_eq_true h.1
theorem Within.tail {n : Nat} {m : List Nat} (h : Within (n :: m)) : Within m := by unfold Within at *; rw [List.all_cons, Bool.and_eq_true] at h; exact h.2
theorem Within.each {H : Type} {e : TypeId} : ∀ {l : List (DataW H)}, Within (DataW.weightsAll P e l) → ∀ d ∈ l, Within (d.weights P e)
 | [], _, d, hd => by cases hd
 | x :: l, h, d, hd => by
  rw [DataW.weightsAll] at h
  rcases List.mem_cons.1 hd with rfl | hd
  ·exact h.left
  ·exact Within.each h.right d hd
def OpensS {α : Type} (P : Program) (f : Form α) (B : α → Prop) (T : TypeId) : Prop :=
 P.cellsOf T = f.size ∧ ∀ (H : Type) (enc : TypeId × Value → H) (w : World) (base : Nat) (spare : Nat → Bool) (held : Bool) (fuel : Nat) (cs : List Value) (y : DataW H × List MemPlace),
  DataW.trod enc P w base spare held fuel T cs = some y → Within (y.1.weights P T) → ∃ x, f.reads w anyB cs x ∧ B x
theorem Opens.sized {α : Type} {f : Form α} {T : TypeId} (h : Opens P f T) : OpensS P f (fun _ => True) T := ⟨h.1, fun H enc w base spare held fuel cs y hy _ => by
 obtain ⟨x, hx⟩ := h.2 H enc w base spare held fuel cs y hy
 exact ⟨x, hx, trivial⟩⟩
theorem OpensS.as {α β : Type} {f : Form α} {B : α → Prop} {T : TypeId} (h : OpensS P f B T) (mk : α → β) : OpensS P (f.as mk) (fun y => ∃ x, B x ∧ mk x = y) T := ⟨h.1, fun H enc w base spare held fuel cs y hy hw => by
 obtain ⟨x, hx, hb⟩ := h.2 H enc w base spare held fuel cs y hy hw
 exact ⟨mk x, ⟨x, hx, rfl⟩, x, hb, rfl⟩⟩
theorem OpensS.wide {α : Type} {f : Form α} {B C : α → Prop} {T : TypeId} (h : OpensS P f B T) (hB : ∀ x, B x → C x) : OpensS P f C T := ⟨h.1, fun H enc w base spare held fuel cs y hy hw => by
 obtain ⟨x, hx, hb⟩ := h.2 H enc w base spare held fuel cs y hy hw
 exact ⟨x, hx, hB x hb⟩⟩
theorem OpensS.three {α β γ : Type} {f : Form α} {g : Form β} {k : Form γ} {A : α → Prop} {B : β → Prop} {C : γ → Prop} {T : TypeId} {f0 f1 f2 : Field} (ht : P.underlying T = some (.struct #[f0, f1, f2])) (hf : OpensS P f A f0.type) (hg : OpensS P g B f1.type) (hk : OpensS P k C f2.type)
  (h0 : f0.offset = 0) (h1 : f1.offset = f.size) (h2 : f2.offset = f.size + g.size) (hc : P.cellsOf T = f.size + (g.size + k.size)) :
  OpensS P (f.and (g.and k)) (fun x => A x.1 ∧ B x.2.1 ∧ C x.2.2) T := ⟨hc, fun H enc w base spare held fuel cs y hy hw => by
 obtain ⟨y0, y1, y2, n, rfl, hl, k0, k1, k2⟩ := trod_struct3 ht hy
 simp only [DataW.weights, ht, List.map_cons, List.map_nil, DataW.weightsEach] at hw
 obtain ⟨x0, r0, a0⟩ := hf.2 _ _ _ _ _ _ _ _ _ k0 hw.left
 obtain ⟨x1, r1, a1⟩ := hg.2 _ _ _ _ _ _ _ _ _ k1 hw.right.left
 obtain ⟨x2, r2, a2⟩ := hk.2 _ _ _ _ _ _ _ _ _ k2 hw.right.right.left
 refine ⟨(x0, x1, x2), ⟨_, _, ?_, r0, _, _, rfl, r1, r2⟩, a0, a1, a2⟩
 rw [h0, h1, h2, hf.1, hg.1, hk.1, List.drop_zero, List.take_of_length_le (l := cs.drop (f.size + g.size)) (by rw [List.length_drop, hl, hc]; omega), ← List.drop_drop, List.take_append_drop, List.take_append_drop]⟩
theorem OpensS.slice {α : Type} {f : Form α} {B : α → Prop} {T E : TypeId} {bytes : Nat} (hf : OpensS P f B E) (ht : P.underlying T = some (.slice E)) (hc : P.cellsOf T = 1) (hby : P.bytesOf E = bytes) (hsz : 0 < f.size) :
  OpensS P f.slice (fun xs => xs.length * bytes ≤ reachBytes ∧ ∀ (i : Nat) x, xs[i]? = some x → B x) T := ⟨hc, fun H enc w base spare held fuel cs y hy hw => by
 rcases open_slice ht hy with ⟨rfl, _⟩ | ⟨a, len, cap, m, n, D, Pl, rfl, hb, hl, hm, hmm, rfl, hx⟩
 ·exact ⟨[], ⟨none, 0, 0, 0, 0, rfl, RowAt.nil f w anyB⟩, by simp, fun i x h => by simp at h⟩
 ·simp only [DataW.weights, ht] at hw
  have hhead := hw.head
  rw [hby, List.length_map, List.length_range] at hhead
  have heach := hw.tail.left.each
  have hlm : len ≤ m := by rw [hmm]; split <;> omega
  obtain ⟨b, off, spot⟩ := a
  have hcell0 : 0 < len → ∃ v, w.cell? ⟨b, off, none⟩ = some v ∧ spot = none := fun h0 => by
   obtain ⟨cs', h1, h2⟩ := hx 0 (by omega)
   obtain ⟨_, hlen, hcell⟩ := World.cells?_some h1
   rw [hf.1] at hcell hlen
   have hh := hcell 0 hsz
   rw [List.getElem?_eq_getElem (by omega)] at hh
   have hsp := World.cell?_spot hh
   simp [Addr.add] at hsp hh
   subst hsp
   exact ⟨_, hh, rfl⟩
  have hall : ∀ i, i < len → ∃ x, (∃ cs, f.reads w anyB cs x ∧ ∀ j, j < f.size → w.cell? ⟨b, off + i * f.size + j, none⟩ = cs[j]?) ∧ B x := fun i hi => by
   obtain ⟨cs', h1, h2⟩ := hx i (by omega)
   obtain ⟨x, hr, hB⟩ := hf.2 _ _ _ _ _ _ _ _ _ h2 (heach _ (List.mem_map.2 ⟨i, List.mem_range.2 hi, rfl⟩))
   obtain ⟨_, hlen, hcell⟩ := World.cells?_some h1
   rw [hf.1] at hcell hlen
   obtain ⟨_, _, hsp⟩ := hcell0 (by omega)
   subst hsp
   refine ⟨x, ⟨cs', hr, fun j hj => ?_⟩, hB⟩
   rw [← hcell j hj, add_add]
   congr 1
   unfold Addr.add
   split
   ·rename_i h0
    simp only [Addr.mk.injEq, and_true, true_and]
    omega
   ·simp only [Addr.mk.injEq, and_true, true_and]
    omega
  obtain ⟨xs, hxl, hxs⟩ := list_of len hall
  refine ⟨xs, ⟨_, len, cap, b, off, rfl, hxl, hl, hm, fun h0 => ?_, fun h0 => ?_, fun _ => trivial, fun i x h => (hxs i x h).1⟩, ?_, fun i x h => (hxs i x h).2⟩
  ·obtain ⟨v, _, rfl⟩ := hcell0 h0
   rfl
  ·obtain ⟨v, hv, _⟩ := hcell0 h0
   exact World.block_lt_of_cell? w _ hv
  ·rw [hxl]
   exact Nat.le_trans (Nat.mul_le_mul_right bytes (Nat.le_add_right _ _)) hhead⟩
theorem OpensS.top_slice {α : Type} {f : Form α} {B : α → Prop} {T E : TypeId} {bytes : Nat} (hf : OpensS P f B E) (ht : P.underlying T = some (.slice E)) (hc : P.cellsOf T = 1) (hby : P.bytesOf E = bytes) (hsz : 0 < f.size) {H : Type} {enc : TypeId × Value → H} {w : World} {base b0 : Nat} {r : Reach} {spare : Nat → Bool} {held : Bool} {v : Value} {d : DataW H} {p : List MemPlace}
  (hv : Value.okWide P w r b0 T v) (h : DataW.Trod enc P w base spare held T v d p) (hs : Within (d.weights P T)) :
  ∃ xs : List α, (∃ a n cap b off, v = .slice a n cap ∧ RowAt f w anyB a n cap b off xs) ∧ xs.length * bytes ≤ reachBytes ∧ ∀ (i : Nat) x, xs[i]? = some x → B x := by
 obtain ⟨a0, len0, cap0, rfl⟩ := okWide_slice ht hv
 obtain ⟨fuel, hy⟩ := h
 obtain ⟨xs, ⟨a, n, cap, b, off, e, hr⟩, h1, h2⟩ := (hf.slice ht hc hby hsz).2 _ _ _ _ _ _ _ _ _ hy hs
 have e' : a0 = a ∧ len0 = n ∧ cap0 = cap := by simpa [Value.cells] using e
 obtain ⟨rfl, rfl, rfl⟩ := e'
 exact ⟨xs, ⟨_, _, _, b, off, rfl, hr⟩, h1, h2⟩
theorem OpensS.top_struct {α : Type} {f : Form α} {B : α → Prop} {T : TypeId} {fs : Array Field} (hf : OpensS P f B T) (ht : P.underlying T = some (.struct fs)) {H : Type} {enc : TypeId × Value → H} {w : World} {base b0 : Nat} {r : Reach} {spare : Nat → Bool} {held : Bool} {v : Value} {d : DataW H} {p : List MemPlace}
  (hv : Value.okWide P w r b0 T v) (h : DataW.Trod enc P w base spare held T v d p) (hs : Within (d.weights P T)) : ∃ x, At f w anyB v x ∧ B x := by
 obtain ⟨cs, rfl, _⟩ := okWide_struct ht hv
 obtain ⟨fuel, hy⟩ := h
 obtain ⟨x, hx, hb⟩ := hf.2 _ _ _ _ _ _ _ _ _ hy hs
 exact ⟨x, ⟨cs.toList, by simp, by simpa [Value.cells] using hx⟩, hb⟩
end
end Gal
end
section
set_option linter.unusedVariables false
set_option linter.unusedSimpArgs false
set_option linter.unusedSectionVars false
namespace Gal
open Go Go.RowKit Go.ChangeShapes Go.WideShapes Go.Deep
def Mat.within (m : Mat) : Prop := m.cells.length * 8 ≤ reachBytes
end Gal
namespace Go.Proofs.YtgknjikjjklaiaaGreatDoor
open Go.RowKit Gal
set_option maxRecDepth 100000
theorem opens_mat_sized : OpensS Tryz.prog Form.mat Mat.within 25 := ⟨cells_mat, fun H enc w base spare held fuel cs y h hs => by
 have hI : OpensS Tryz.prog (Form.int.and (Form.int.and Form.int.slice)) (fun x => True ∧ True ∧ (x.2.2.length * 8 ≤ reachBytes ∧ ∀ (i : Nat) y, x.2.2[i]? = some y → True)) 25 :=
  OpensS.three Tryz.underlying25 (Opens.sized opens_int) (Opens.sized opens_int) (OpensS.slice (Opens.sized opens_int) Tryz.underlying23 (by kernel_rfl) (by kernel_rfl) (by decide)) (by kernel_rfl) (by kernel_rfl) (by kernel_rfl) cells_mat
 obtain ⟨⟨r, c, xs⟩, ⟨c0, c1, rfl, rfl, c2, c3, rfl, rfl, a, n, cap, b, off, rfl, hr⟩, _, _, hb, _⟩ := hI.2 _ _ _ _ _ _ _ _ _ h hs
 exact ⟨⟨r, c, xs⟩, ⟨a, n, cap, b, off, rfl, fun _ => trivial, hr.ints⟩, hb⟩⟩
def Lay.within (l : Lay) : Prop := l.W.within ∧ l.B.within
theorem opens_lay_sized : OpensS Tryz.prog Form.lay Lay.within 82 :=
 ((OpensS.three (f := Form.int) (g := Form.mat) (k := Form.mat) Tryz.underlying82 (Opens.sized opens_int) opens_mat_sized opens_mat_sized (by kernel_rfl) (by kernel_rfl) (by kernel_rfl) (by kernel_rfl)).as _).wide fun l ⟨x, ⟨_, h1, h2⟩, e⟩ => by subst e; exact ⟨h1, h2⟩
end Go.Proofs.YtgknjikjjklaiaaGreatDoor
end
section
set_option linter.unusedVariables false
set_option linter.unusedSimpArgs false
set_option linter.unusedSectionVars false
set_option maxRecDepth 100000
namespace Go.Proofs.YtgknjikjjklaiaaGreatDoor
open Go.RowKit Gal Go.ChangeShapes Go.WideShapes
def StaIn (w : World) (v : Value) (s : Sta) : Prop := StaV w v s ∧ s.N.length * 88 ≤ reachBytes ∧ ∀ (i : Nat) l, s.N[i]? = some l → Lay.within l
theorem opens_sta_sized : OpensS Tryz.prog Form.sta (fun s => s.N.length * 88 ≤ reachBytes ∧ ∀ (i : Nat) l, s.N[i]? = some l → Lay.within l) 47 :=
 ((OpensS.three Tryz.underlying47 (OpensS.slice (bytes := 88) opens_lay_sized Tryz.underlying22 (by kernel_rfl) (by kernel_rfl) (by decide)) (OpensS.slice (bytes := 80) (Opens.sized opens_grd) Tryz.underlying26 (by kernel_rfl) (by kernel_rfl) (by decide)) (Opens.sized opens_int) (by kernel_rfl) (by kernel_rfl) (by kernel_rfl) (by kernel_rfl)).as _).wide fun s ⟨x, ⟨h1, _, _⟩, e⟩ => by subst e; exact h1
theorem open_galley_galleyref1_State_sized {H : Type} {enc : TypeId × Value → H} {w : World} {base b0 : Nat} {r : Reach} {spare : Nat → Bool} {held : Bool} {v : Value} {d : DataW H} {p : List MemPlace}
  (hv : Value.okWide Tryz.prog w r b0 47 v) (h : DataW.Trod enc Tryz.prog w base spare held 47 v d p) (hs : Within (d.weights Tryz.prog 47)) : ∃ s : Sta, StaIn w v s := by
 obtain ⟨s, h1, h2⟩ := opens_sta_sized.top_struct Tryz.underlying47 hv h hs
 exact ⟨s, h1.sta, h2⟩
def BatsIn (w : World) (v : Value) (l : List Bat) : Prop := (∃ a n k b o, v = .slice a n k ∧ RowAt Form.bat w anyB a n k b o l) ∧ l.length * 80 ≤ reachBytes
theorem open_lBatch_sized {H : Type} {enc : TypeId × Value → H} {w : World} {base b0 : Nat} {r : Reach} {spare : Nat → Bool} {held : Bool} {v : Value} {d : DataW H} {p : List MemPlace}
  (hv : Value.okWide Tryz.prog w r b0 62 v) (h : DataW.Trod enc Tryz.prog w base spare held 62 v d p) (hs : Within (d.weights Tryz.prog 62)) : ∃ l : List Bat, BatsIn w v l := by
 obtain ⟨l, h1, h2, _⟩ := OpensS.top_slice (Opens.sized opens_bat) Tryz.underlying62 (by kernel_rfl) (by kernel_rfl) (by decide) hv h hs
 exact ⟨l, h1, h2⟩
theorem open_Rates_sized {H : Type} {enc : TypeId × Value → H} {w : World} {base b0 : Nat} {r : Reach} {spare : Nat → Bool} {held : Bool} {v : Value} {d : DataW H} {p : List MemPlace}
  (hv : Value.okWide Tryz.prog w r b0 51 v) (h : DataW.Trod enc Tryz.prog w base spare held 51 v d p) (hs : Within (d.weights Tryz.prog 51)) : ∃ x : Rts, RatesAt w v x := open_Rates hv h
end Go.Proofs.YtgknjikjjklaiaaGreatDoor
end
