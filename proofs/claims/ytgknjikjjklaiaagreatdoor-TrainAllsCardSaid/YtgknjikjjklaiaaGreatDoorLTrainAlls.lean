/- TrainAlls: any batches, one behind the other, are learned as the document says, and a training begins with any net as it is: the law returns true. No condition. -/
import Derived.Test.YtgknjikjjklaiaaGreatDoorCards
import Derived.Test.YtgknjikjjklaiaaGreatDoorTie
import Derived.Test.YtgknjikjjklaiaaGreatDoorJ39
import Derived.Test.YtgknjikjjklaiaaGreatDoorJ09
import Derived.Test.YtgknjikjjklaiaaGreatDoorJ52
import Derived.Test.YtgknjikjjklaiaaGreatDoorJ05
import Derived.Test.YtgknjikjjklaiaaGreatDoorJ12
import Derived.Deep.DeepHandedRow
import Derived.Deep.RegionLaw
set_option linter.unusedVariables false
set_option linter.unusedSimpArgs false
set_option linter.unusedSectionVars false
set_option maxRecDepth 100000
namespace Go.Proofs.YtgknjikjjklaiaaGreatDoor.lawTrainAlls
open Go.ChangeShapes Go.WideShapes Go.ChangeAt Go.RowKit Gal
set_option maxHeartbeats 8000000
/-- what comes of all, or nothing -/
def finSta (s : Sta) (l : List Bat) (p ln kp : Int) : Sta := if allFault s l p ln kp = 0 then allSt s l p ln kp l.length else ⟨[], [], 0⟩
def finOff (s : Sta) (l : List Bat) (p ln kp : Int) : List Int := if allFault s l p ln kp = 0 then allOffs s l p ln kp l.length else []
theorem ends {w' : World} {s : Sta} {l : List Bat} {p ln kp : Int} {v o : Value} (h : allFault s l p ln kp = 0 → StaV w' v (allSt s l p ln kp l.length) ∧ ∃ a k b, o = .slice a l.length k ∧ IntsAt w' a l.length k b 0 (allOffs s l p ln kp l.length))
  (h' : allFault s l p ln kp ≠ 0 → v = .agg #[.slice none 0 0, .slice none 0 0, .int .i64 0] ∧ o = .slice none 0 0) : StaV w' v (finSta s l p ln kp) ∧ ∃ a n k b, o = .slice a n k ∧ IntsAt w' a n k b 0 (finOff s l p ln kp) := by
 unfold finSta finOff
 by_cases hf : allFault s l p ln kp = 0
 ·rw [if_pos hf, if_pos hf]
  obtain ⟨h1, a, k, b, h2, h3⟩ := h hf
  exact ⟨h1, a, _, k, b, h2, h3⟩
 ·rw [if_neg hf, if_neg hf]
  obtain ⟨rfl, rfl⟩ := h' hf
  exact ⟨⟨none, 0, 0, 0, 0, none, 0, 0, 0, 0, rfl, RowAt.nil _ _ _, RowAt.nil _ _ _⟩, none, 0, 0, 0, rfl, ⟨rfl, Nat.le_refl _, Nat.zero_le _, fun h => absurd h (Nat.lt_irrefl _), fun h => absurd h (Nat.lt_irrefl _), fun i hi => absurd hi (Nat.not_lt_zero _)⟩⟩
def ftAt (s : Sta) (l : List Bat) (p ln kp : Int) (L t : Nat) : Int := if 20 < L then 3 else if L = 0 then s.fault else allFt s l p ln kp t
theorem one_ends {base : Nat} {w' : World} {s : Sta} {d : Bat} {p ln kp off : Int} {v : Value} (h : oneFault s d p ln kp = 0 → off = oneOff s d p ∧ StaNew base w' v (oneOf s d p ln kp)) (h' : oneFault s d p ln kp ≠ 0 → off = 0 ∧ v = .agg #[.slice none 0 0, .slice none 0 0, .int .i64 0]) :
  ∃ a n k b a1 n1 k1 b1 z, v = .agg #[.slice a n k, .slice a1 n1 k1, .int .i64 z] ∧ (oneFault s d p ln kp = 0 → off = oneOff s d p ∧ z = (oneOf s d p ln kp).steps ∧ RowAt Form.lay w' (newB base) a n k b 0 (oneOf s d p ln kp).N ∧ RowAt Form.grd w' (newB base) a1 n1 k1 b1 0 (oneOf s d p ln kp).V) := by
 by_cases hf : oneFault s d p ln kp = 0
 ·obtain ⟨h1, a, n, k, b, a1, n1, k1, b1, rfl, q0, q1⟩ := h hf
  exact ⟨a, n, k, b, a1, n1, k1, b1, _, rfl, fun _ => ⟨h1, rfl, q0, q1⟩⟩
 ·obtain ⟨_, rfl⟩ := h' hf
  exact ⟨none, 0, 0, 0, none, 0, 0, 0, 0, rfl, fun h => absurd h hf⟩
theorem walk (s : Sta) (v0 : Value) (l : List Bat) (v1 : Value) (p : Int) (r : Rts) (v3 : Value) (w : World) (hs : StaIn w v0 s) (hd : BatsIn w v1 l) (hp : (Lit.int .i64 p).wf = true) (hr : RatesAt w v3 r) (hh : Handle w) :
  Calls Tryz.prog 5 #[v0, v1, .int .i64 p, v3] w fun e w' => e = .returned (.bool true) ∧ Below w.heap.size w w' := by
 obtain ⟨⟨a0, n, k0, b0, o0, a1, n1, k1, b1, o1, rfl, h0, h1⟩, hz, hwi⟩ := hs
 obtain ⟨⟨aL, L, kL, bL, oL, rfl, hl⟩, hzl⟩ := hd
 obtain ⟨ln, kp⟩ := r
 unfold RatesAt at hr
 subst hr
 obtain ⟨i0, hi, hz0, hz1, hz2⟩ := info_parts info_int'
 have HLN := Lib.hid hl.len
 have HNN := Lib.hid h0.len
 have HZN : Hid (n * 88 ≤ 140737488355328) := Lib.hid (by have := h0.len; unfold reachBytes at hz; omega)
 have HZM : Hid (∀ i, i < n → (lx s.N i).W.cells.length * 8 ≤ 140737488355328 ∧ (lx s.N i).B.cells.length * 8 ≤ 140737488355328) := Lib.hid (fun i hi => by
  have h2 := hwi i _ (lx_get (by rw [h0.len]; exact hi))
  unfold Lay.within Mat.within reachBytes at h2
  omega)
 clear hp hz hwi hzl
 have h0w : RowAt Form.lay w (fun b => b < w.heap.size) a0 n k0 b0 o0 s.N := h0.wide (fun b _ h => h)
 have h1w : RowAt Form.grd w (fun b => b < w.heap.size) a1 n1 k1 b1 o1 s.V := h1.wide (fun b _ h => h)
 have hlw : RowAt Form.bat w (fun b => b < w.heap.size) aL L kL bL oL l := hl.wide (fun b _ h => h)
 go_enter Tryz.func5, Tryz.ntmps5
 go_wp2_with fail
 refine (lawState1_any s.steps a0 a1 n n1 k0 k1 _).mono ?_
 rintro e w1 ⟨rfl, hb1⟩
 have B4 := ((show Box _ w.heap.size [.slice a0 n k0, .slice a1 n1 k1, .int .i64 s.steps] 47 from Box.x0)).keep hb1
 have B4c := B4.cell
 have B4f := B4.thawed
 have B4z := B4.lt
 have B4k := lt_add B4z
 have B7 := ((show Box _ (w.heap.size + 1) [.int .i64 ln, .int .i64 kp] 51 from Box.x0)).keep hb1
 have B7c := B7.cell
 have B7f := B7.thawed
 have B7z := B7.lt
 have B7k := lt_add B7z
 have hkw1 : Below w.heap.size w w1 := (Below.x1 hb1)
 replace h0 := h0.keep hkw1
 replace h1 := h1.keep hkw1
 replace hl := hl.keep hkw1
 replace hh := hh.keep hkw1
 have hsw1 := hkw1.size
 go_wp2_with fail
 refine (trainAll_any s l p ln kp anyB anyB anyB _ _ _ _ _ _ _ _ _ _ _ _ _ _ _ _ (h0.alloc _) (h1.alloc _) (hl.alloc _)).mono ?_
 rintro e w2 ⟨vO, off, rfl, hb2, hO, hO'⟩
 have hkw2 : Below w1.heap.size w1 w2 := (Below.x1 hb2)
 replace B4 := B4.keep hkw2
 replace B4c := B4.cell
 replace B4f := B4.thawed
 replace B4z := B4.lt
 replace B4k := lt_add B4z
 replace B7 := B7.keep hkw2
 replace B7c := B7.cell
 replace B7f := B7.thawed
 replace B7z := B7.lt
 replace B7k := lt_add B7z
 replace h0 := h0.keep hkw2
 replace h1 := h1.keep hkw2
 replace hl := hl.keep hkw2
 replace hh := hh.keep hkw2
 have hsw2 := hkw2.size
 obtain ⟨⟨c0, m0, l0, d0, p0, c1, m1, l1, d1, p1, rfl, q0, q1⟩, c2, m2, l2, d2, rfl, q2⟩ := ends hO hO'
 have hbw2 : Below w.heap.size w w2 := (Below.x2 hb2 hb1)
 clear hO hO' hb1 hb2
 obtain ⟨S, hS⟩ : ∃ S, finSta s l p ln kp = S := ⟨_, rfl⟩
 obtain ⟨X, hX⟩ : ∃ X, finOff s l p ln kp = X := ⟨_, rfl⟩
 obtain ⟨f, hf⟩ : ∃ f, allFault s l p ln kp = f := ⟨_, rfl⟩
 rw [hS] at q0 q1
 rw [hX] at q2
 rw [hS, hf]
 have HS := Lib.hid hS
 have HX := Lib.hid hX
 have HF := Lib.hid hf
 clear hS hX hf
 have zP10 : w.heap.size + 1 < w2.heap.size := B7.lt
 have hhl := hh.lt
 by_cases hL : 20 < L
 ·have hf3 : f = 3 := by rw [← HF.out]; unfold allFault; rw [if_pos (by rw [HLN.out]; exact hL)]
  have HF3 := Lib.hid hf3
  have hf0 : f ≠ 0 := by rw [hf3]; decide
  clear hf3
  have e1 : ((L : Int) > 20) = True := eq_true (by omega)
  have e2 : ((0 : Int) < (L : Int)) = True := eq_true (by omega)
  -- the world at the loop: w2.alloc (.cells #[.slice c0 m0 l0, .slice c1 m1 l1, .int .i64 S.steps] 53) and the document's state's box
  obtain ⟨p14, hp14⟩ : ∃ p14, w2.heap.size + 1 = p14 := ⟨_, rfl⟩
  obtain ⟨we, hwe⟩ : ∃ we, (w2.alloc (.cells #[.slice c0 m0 l0, .slice c1 m1 l1, .int .i64 S.steps] 53)).alloc (.cells #[.slice a0 n k0, .slice a1 n1 k1, .int .i64 s.steps] 47) = we := ⟨_, rfl⟩
  have hb2e : Below w2.heap.size w2 we := by rw [← hwe]; exact Below.x0
  have hbe : Below w.heap.size w we := hbw2.trans (hb2e.mono hbw2.size)
  have P10 : Box we w2.heap.size [.slice c0 m0 l0, .slice c1 m1 l1, .int .i64 S.steps] 53 := by rw [← hwe]; exact Box.x0
  have R14 : Box we p14 [.slice a0 n k0, .slice a1 n1 k1, .int .i64 s.steps] 47 := by rw [← hwe, ← hp14]; exact Box.x0
  have HWE := Lib.hid hwe
  have HP14 := Lib.hid hp14
  have hpz : w2.heap.size < p14 := by omega
  have hwz2 := hbw2.size
  have B4e := B4.keep hb2e
  have B7e := B7.keep hb2e
  replace q0 := (q0.wide (G := fun b => b < w2.heap.size) (fun b _ h => h)).keep hb2e
  replace q1 := (q1.wide (G := fun b => b < w2.heap.size) (fun b _ h => h)).keep hb2e
  have q2l := q2.lt
  replace q2 := q2.keep hb2e
  replace hh := hh.keep hb2e
  replace h0 := h0w.keep (hbe : Below w.heap.size w we)
  replace h1 := h1w.keep (hbe : Below w.heap.size w we)
  replace hl := hlw.keep (hbe : Below w.heap.size w we)
  have hz14 := R14.lt
  clear hwe hp14 B7c B7f B7z B7k hb2e
  go_wp2_with fail
  rw [HWE.out]
  try rw [HP14.out]
  replace B4 := B4e
  replace B7 := B7e
  clear B4c B4f B4z B4k hbw2 B4e B7e
  -- no round is made; e is f, by by rw [HF3.out]
  go_loopw [13, 15, 16] (fun e u j wr => wr = we ∧ e = .int .i64 f ∧ j = .int .i64 0 ∧ u = .slice none 0 0) (fun _ _ _ _ => 0)
  case atStart => exact ⟨rfl, by rw [HF3.out], rfl, rfl⟩
  case round =>
   obtain ⟨rfl, rfl, rfl, rfl⟩ := hrel
   have hbr := hbe
   clear h1 hl B7
   -- something is wrong: at wr
   have hg1 : (f == 0) = false := by rw [beq_eq_false_iff_ne]; exact hf0
   have hg2 : (f != 0) = true := by rw [bne_iff_ne]; exact hf0
   obtain rfl : S = ⟨[], [], 0⟩ := by rw [← HS.out]; unfold finSta; rw [if_neg (by rw [HF.out]; exact hf0)]
   obtain rfl : X = [] := by rw [← HX.out]; unfold finOff; rw [if_neg (by rw [HF.out]; exact hf0)]
   have f0 := R14.thawed 0
   have f1 := R14.thawed 1
   have f2 := R14.thawed 2
   have rz14 := R14.lt
   have rc0 := R14.cell 0
   have rc1 := R14.cell 1
   have rc2 := R14.cell 2
   obtain ⟨wx, hwx, R14x, hfx⟩ : ∃ wx, (((wr.setCell ⟨p14, 0, none⟩ (.slice none 0 0)).setCell ⟨p14, 1, none⟩ (.slice none 0 0)).setCell ⟨p14, 2, none⟩ (.int .i64 0)) = wx ∧ Box wx p14 [.slice none 0 0, .slice none 0 0, .int .i64 0] 47 ∧ Far (fun b => b = p14) wr wx :=
    ⟨_, rfl, ((R14.set 0 _).set 1 _).set 2 _, (((Far.refl (fun b => b = p14) wr).st (fun _ => rfl) _).st (fun _ => rfl) _).st (fun _ => rfl) _⟩
   have hbx : Below w.heap.size w wx := by rw [← hwx]; exact ((hbr.setCell (by dsimp only; omega) _).setCell (by dsimp only; omega) _).setCell (by dsimp only; omega) _
   have HWX := Lib.hid hwx
   replace B4 := B4.farS hfx (by omega)
   replace P10 := P10.farS hfx (by omega)
   replace q0 := (q0.farS hfx (fun b hb _ => by omega)).wide (G := anyB) (fun _ _ _ => trivial)
   replace q1 := (q1.farS hfx (fun b hb _ => by omega)).wide (G := anyB) (fun _ _ _ => trivial)
   replace q2 := q2.farS hfx (fun h => by have := q2l h; omega)
   replace hh := hh.farS hfx (fun e => by have := hhl; omega)
   replace h0 := h0.farS hfx (fun b hb _ => by omega)
   have hb40 := B4.cell 0
   have hP0 := P10.cell 0
   have hP1 := P10.cell 1
   have hP2 := P10.cell 2
   have hPz := P10.lt
   clear hfx R14 hbr hf0 HF HS HX hwx
   have R14 := R14x
   clear R14x
   have r4 : RowAt Form.lay wx anyB none 0 0 0 0 ([] : List Lay) := RowAt.nil _ _ _
   have r5 : RowAt Form.grd wx anyB none 0 0 0 0 ([] : List Grd) := RowAt.nil _ _ _
   have rX : IntsAt wx none 0 0 0 0 [] := ⟨rfl, Nat.le_refl _, Nat.zero_le _, fun h => absurd h (Nat.lt_irrefl _), fun h => absurd h (Nat.lt_irrefl _), fun i hi => absurd hi (Nat.not_lt_zero _)⟩
   go_wp2_with fail
   rw [HWX.out]
   -- facts at wx: hbx; the boxes P10 R14 B4; q0 q1 q2 (what the program answers), r4 r5 rX (the document's); hh h0
   refine (error_any f f _ hh).mono ?_
   rintro e w21 ⟨rfl, hb21⟩
   rw [decide_eq_true rfl]
   have hs0 := Lib.hid hb21
   replace P10 := P10.keep hb21
   replace R14 := R14.keep hb21
   replace B4 := B4.keep hb21
   replace q0 := q0.keep hb21
   replace q1 := q1.keep hb21
   replace q2 := q2.keep hb21
   replace r4 := r4.keep hb21
   replace r5 := r5.keep hb21
   replace rX := rX.keep hb21
   replace h0 := h0.keep hb21
   have P0 := P10.cell 0
   have P1 := P10.cell 1
   have P2 := P10.cell 2
   have R0 := R14.cell 0
   have R1 := R14.cell 1
   have R2 := R14.cell 2
   have PZ := P10.lt
   have RZ := R14.lt
   go_wp2_with fail
   refine (states1_same ⟨[], [], 0⟩ _ _ _ ⟨_, _, _, _, _, _, _, _, _, _, rfl, q0, q1⟩ ⟨_, _, _, _, _, _, _, _, _, _, rfl, r4, r5⟩).mono ?_
   rintro e w22 ⟨rfl, hb22⟩
   replace B4 := B4.keep hb22
   replace q2 := q2.keep hb22
   replace rX := rX.keep hb22
   replace h0 := h0.keep hb22
   clear P0 P1 P2 R0 R1 R2 PZ RZ P10 R14 q0 q1 r4 r5
   go_wp2_with fail
   refine (ints_any _ _ _ _ _ _ _ _ _ _ [] [] _ q2 rX).mono ?_
   rintro e w23 ⟨rfl, hd23⟩
   have hb23 : Below w22.heap.size w22 w23 := by obtain ⟨nd, rfl⟩ := hd23; exact ⟨rfl, rfl, rfl, Nat.le_refl _, fun _ _ => rfl⟩
   rw [decide_eq_true rfl]
   replace B4 := B4.keep hb23
   replace h0 := h0.keep hb23
   have b40 := B4.cell 0
   have zB4 := B4.lt
   clear q2 rX
   go_wp2_with fail
   refine (trainBegin_any s.N _ _ _ _ _ _ _ h0 HZM.out HZN.out).mono ?_
   rintro e w24 ⟨vB, rfl, hb24, aN, nN, kN, bN, aV, nV, kV, bV, rfl, y0, y1⟩
   replace B4 := B4.keep hb24
   replace h0 := h0.keep hb24
   have b40 := B4.cell 0
   have zB4 := B4.lt
   go_wp2_with fail
   refine (layers_same s.N _ _ _ _ _ _ _ _ _ _ _ _ _ (y0.alloc _) (h0.alloc _)).mono ?_
   rintro e w25 ⟨rfl, hb25⟩
   have B21 := (Box.new w24 [.slice aN nN kN, .slice aV nV kV, .int .i64 0] 53).keep hb25
   have B21c := B21.cell
   have B21f := B21.thawed
   have B21z := B21.lt
   have B21k := lt_add B21z
   replace B4 := B4.keep ((Below.x1 hb25) : Below w24.heap.size w24 w25)
   replace h0 := h0.keep ((Below.x1 hb25) : Below w24.heap.size w24 w25)
   replace y1 := y1.keep ((Below.x1 hb25) : Below w24.heap.size w24 w25)
   have b40 := B4.cell 0
   have zB4 := B4.lt
   go_wp2_with fail
   refine (netZero_any s.N _ _ _ _ _ _ _ h0 HZM.out (by have := HZN.out; omega)).mono ?_
   rintro e w26 ⟨aZ, kZ, bZ, rfl, hb26, rZ⟩
   replace B21 := B21.keep hb26
   replace y1 := y1.keep hb26
   have B21c := B21.cell
   have B21z := B21.lt
   go_wp2_with fail
   refine (grads_same (zeroNet s.N) _ _ _ _ _ _ _ _ _ _ _ _ _ y1 rZ).mono ?_
   rintro e w27 ⟨rfl, hb27⟩
   replace B21 := B21.keep hb27
   have B21c := B21.cell
   have B21z := B21.lt
   have hbe : Below w.heap.size w w27 := (by repeat (first | (with_reducible first | exact Below.refl _ _ | exact hbx | refine Below.al ?_ _ | refine Below.drN ?_ _ | refine Below.drew ?_ | refine Below.sx ?_ _ | refine Below.go ?_ hb27 | refine Below.go ?_ hb26 | refine Below.go ?_ hb25 | refine Below.go ?_ hb24 | refine Below.go ?_ hb23 | refine Below.go ?_ hb22 | refine Below.go ?_ hb21) | exact Below.refl _ _ | exact hbx))
   clear y0 y1 rZ h0 B4 b40
   go_wp2
   go_ret
   exact ⟨rfl, hbe⟩
 ·by_cases hL0 : L = 0
  ·have hfs : s.fault = f := by rw [← HF.out]; unfold allFault; rw [if_neg (by rw [HLN.out]; exact hL), if_pos (by rw [HLN.out]; exact hL0)]
   have HFS := Lib.hid hfs
   subst hL0
   have hL : (20 : Nat) ≥ 0 := by omega
   clear hfs
   go_wp2_with fail
   refine (refStateFault_any s anyB anyB _ _ _ _ _ _ _ _ _ _ _ (h0.alloc _) (h1.alloc _)).mono ?_
   rintro e w3 ⟨rfl, hb3⟩
   rw [HFS.out]
   have hb3a : Below w2.heap.size w2 w3 := (Below.x1 hb3)
   have B4y := B4.keep hb3a
   have y40 := B4y.cell 0
   have y41 := B4y.cell 1
   have y42 := B4y.cell 2
   have y4z := B4y.lt
   obtain ⟨p14, hp14⟩ : ∃ p14, w3.heap.size = p14 := ⟨_, rfl⟩
   obtain ⟨we, hwe⟩ : ∃ we, w3.alloc (.cells #[.slice a0 n k0, .slice a1 n1 k1, .int .i64 s.steps] 47) = we := ⟨_, rfl⟩
   have hb3e : Below w3.heap.size w3 we := by rw [← hwe]; exact Below.x0
   have hb2e : Below w2.heap.size w2 we := hb3a.trans (hb3e.mono hb3a.size)
   have hbe : Below w.heap.size w we := hbw2.trans (hb2e.mono hbw2.size)
   have P10 : Box we w2.heap.size [.slice c0 m0 l0, .slice c1 m1 l1, .int .i64 S.steps] 53 := ((Box.new w2 [.slice c0 m0 l0, .slice c1 m1 l1, .int .i64 S.steps] 53).keep hb3).keep hb3e
   have R14 : Box we p14 [.slice a0 n k0, .slice a1 n1 k1, .int .i64 s.steps] 47 := by rw [← hwe, ← hp14]; exact Box.new _ _ _
   have HWE := Lib.hid hwe
   have HP14 := Lib.hid hp14
   have hpz : w2.heap.size < p14 := by have := ((Box.new w2 [.slice c0 m0 l0, .slice c1 m1 l1, .int .i64 S.steps] 53).keep hb3).lt; omega
   have hwz2 := hbw2.size
   have B4e := B4.keep hb2e
   replace q0 := (q0.wide (G := fun b => b < w2.heap.size) (fun b _ h => h)).keep hb2e
   replace q1 := (q1.wide (G := fun b => b < w2.heap.size) (fun b _ h => h)).keep hb2e
   have q2l := q2.lt
   replace q2 := q2.keep hb2e
   replace hh := hh.keep hb2e
   replace h0 := h0w.keep (hbe : Below w.heap.size w we)
   replace h1 := h1w.keep (hbe : Below w.heap.size w we)
   clear hl hlw B7 B7c B7f B7z B7k hwe hp14 hb2e hb3e hb3a hb3
   go_wp2_with fail
   rw [HWE.out]
   try rw [HP14.out]
   replace B4 := B4e
   clear B4c B4f B4z B4k hbw2 B4e B4y y40 y41 y42 y4z
   -- no round is made; e is f, by rfl
   go_loopw [13, 15, 16] (fun e u j wr => wr = we ∧ e = .int .i64 f ∧ j = .int .i64 0 ∧ u = .slice none 0 0) (fun _ _ _ _ => 0)
   case atStart => exact ⟨rfl, rfl, rfl, rfl⟩
   case round =>
    obtain ⟨rfl, rfl, rfl, rfl⟩ := hrel
    have hbr := hbe
    have e2 : ((0 : Int) < (0 : Int)) = False := eq_false (by omega)
    by_cases hf0 : f = 0
    ·obtain rfl : l = [] := List.eq_nil_of_length_eq_zero HLN.out
     obtain rfl : s = S := by rw [← HS.out]; unfold finSta; rw [if_pos (HF.out.trans hf0)]; rfl
     obtain rfl : X = [] := by rw [← HX.out]; unfold finOff; rw [if_pos (HF.out.trans hf0)]; rfl
     have r4 := h0
     have r5 := h1
     have rX : IntsAt wr none 0 0 0 0 [] := ⟨rfl, Nat.le_refl _, Nat.zero_le _, fun h => absurd h (Nat.lt_irrefl _), fun h => absurd h (Nat.lt_irrefl _), fun i hi => absurd hi (Nat.not_lt_zero _)⟩
     clear h1 HFS
     -- what was learned is whole: at wr
     have hg1 : (f == 0) = true := by rw [beq_iff_eq]; exact hf0
     have hg2 : (f != 0) = false := by rw [bne_eq_false_iff_eq]; exact hf0
     have hb40 := B4.cell 0
     have hP0 := P10.cell 0
     have hP1 := P10.cell 1
     have hP2 := P10.cell 2
     have hPz := P10.lt
     replace q0 := q0.wide (G := anyB) (fun _ _ _ => trivial)
     replace q1 := q1.wide (G := anyB) (fun _ _ _ => trivial)
     replace r4 := r4.wide (G := anyB) (fun _ _ _ => trivial)
     replace r5 := r5.wide (G := anyB) (fun _ _ _ => trivial)
     have hbx := hbr
     clear hf0 HF HS HX hbr
     go_wp2_with fail
     -- facts at wr: hbx; the boxes P10 R14 B4; q0 q1 q2 (what the program answers), r4 r5 rX (the document's); hh h0
     refine (error_any f f _ hh).mono ?_
     rintro e w21 ⟨rfl, hb21⟩
     rw [decide_eq_true rfl]
     have hs0 := Lib.hid hb21
     replace P10 := P10.keep hb21
     replace R14 := R14.keep hb21
     replace B4 := B4.keep hb21
     replace q0 := q0.keep hb21
     replace q1 := q1.keep hb21
     replace q2 := q2.keep hb21
     replace r4 := r4.keep hb21
     replace r5 := r5.keep hb21
     replace rX := rX.keep hb21
     replace h0 := h0.keep hb21
     have P0 := P10.cell 0
     have P1 := P10.cell 1
     have P2 := P10.cell 2
     have R0 := R14.cell 0
     have R1 := R14.cell 1
     have R2 := R14.cell 2
     have PZ := P10.lt
     have RZ := R14.lt
     go_wp2_with fail
     refine (states1_same s _ _ _ ⟨_, _, _, _, _, _, _, _, _, _, rfl, q0, q1⟩ ⟨_, _, _, _, _, _, _, _, _, _, rfl, r4, r5⟩).mono ?_
     rintro e w22 ⟨rfl, hb22⟩
     replace B4 := B4.keep hb22
     replace q2 := q2.keep hb22
     replace rX := rX.keep hb22
     replace h0 := h0.keep hb22
     clear P0 P1 P2 R0 R1 R2 PZ RZ P10 R14 q0 q1 r4 r5
     go_wp2_with fail
     refine (ints_any _ _ _ _ _ _ _ _ _ _ _ _ _ q2 rX).mono ?_
     rintro e w23 ⟨rfl, hd23⟩
     have hb23 : Below w22.heap.size w22 w23 := by obtain ⟨nd, rfl⟩ := hd23; exact ⟨rfl, rfl, rfl, Nat.le_refl _, fun _ _ => rfl⟩
     rw [decide_eq_true rfl]
     replace B4 := B4.keep hb23
     replace h0 := h0.keep hb23
     have b40 := B4.cell 0
     have zB4 := B4.lt
     clear q2 rX
     go_wp2_with fail
     refine (trainBegin_any s.N _ _ _ _ _ _ _ h0 HZM.out HZN.out).mono ?_
     rintro e w24 ⟨vB, rfl, hb24, aN, nN, kN, bN, aV, nV, kV, bV, rfl, y0, y1⟩
     replace B4 := B4.keep hb24
     replace h0 := h0.keep hb24
     have b40 := B4.cell 0
     have zB4 := B4.lt
     go_wp2_with fail
     refine (layers_same s.N _ _ _ _ _ _ _ _ _ _ _ _ _ (y0.alloc _) (h0.alloc _)).mono ?_
     rintro e w25 ⟨rfl, hb25⟩
     have B21 := (Box.new w24 [.slice aN nN kN, .slice aV nV kV, .int .i64 0] 53).keep hb25
     have B21c := B21.cell
     have B21f := B21.thawed
     have B21z := B21.lt
     have B21k := lt_add B21z
     replace B4 := B4.keep ((Below.x1 hb25) : Below w24.heap.size w24 w25)
     replace h0 := h0.keep ((Below.x1 hb25) : Below w24.heap.size w24 w25)
     replace y1 := y1.keep ((Below.x1 hb25) : Below w24.heap.size w24 w25)
     have b40 := B4.cell 0
     have zB4 := B4.lt
     go_wp2_with fail
     refine (netZero_any s.N _ _ _ _ _ _ _ h0 HZM.out (by have := HZN.out; omega)).mono ?_
     rintro e w26 ⟨aZ, kZ, bZ, rfl, hb26, rZ⟩
     replace B21 := B21.keep hb26
     replace y1 := y1.keep hb26
     have B21c := B21.cell
     have B21z := B21.lt
     go_wp2_with fail
     refine (grads_same (zeroNet s.N) _ _ _ _ _ _ _ _ _ _ _ _ _ y1 rZ).mono ?_
     rintro e w27 ⟨rfl, hb27⟩
     replace B21 := B21.keep hb27
     have B21c := B21.cell
     have B21z := B21.lt
     have hbe : Below w.heap.size w w27 := (by repeat (first | (with_reducible first | exact Below.refl _ _ | exact hbx | refine Below.al ?_ _ | refine Below.drN ?_ _ | refine Below.drew ?_ | refine Below.sx ?_ _ | refine Below.go ?_ hb27 | refine Below.go ?_ hb26 | refine Below.go ?_ hb25 | refine Below.go ?_ hb24 | refine Below.go ?_ hb23 | refine Below.go ?_ hb22 | refine Below.go ?_ hb21) | exact Below.refl _ _ | exact hbx))
     clear y0 y1 rZ h0 B4 b40
     go_wp2
     go_ret
     exact ⟨rfl, hbe⟩
    ·clear h1 HFS
     -- something is wrong: at wr
     have hg1 : (f == 0) = false := by rw [beq_eq_false_iff_ne]; exact hf0
     have hg2 : (f != 0) = true := by rw [bne_iff_ne]; exact hf0
     obtain rfl : S = ⟨[], [], 0⟩ := by rw [← HS.out]; unfold finSta; rw [if_neg (by rw [HF.out]; exact hf0)]
     obtain rfl : X = [] := by rw [← HX.out]; unfold finOff; rw [if_neg (by rw [HF.out]; exact hf0)]
     have f0 := R14.thawed 0
     have f1 := R14.thawed 1
     have f2 := R14.thawed 2
     have rz14 := R14.lt
     have rc0 := R14.cell 0
     have rc1 := R14.cell 1
     have rc2 := R14.cell 2
     obtain ⟨wx, hwx, R14x, hfx⟩ : ∃ wx, (((wr.setCell ⟨p14, 0, none⟩ (.slice none 0 0)).setCell ⟨p14, 1, none⟩ (.slice none 0 0)).setCell ⟨p14, 2, none⟩ (.int .i64 0)) = wx ∧ Box wx p14 [.slice none 0 0, .slice none 0 0, .int .i64 0] 47 ∧ Far (fun b => b = p14) wr wx :=
      ⟨_, rfl, ((R14.set 0 _).set 1 _).set 2 _, (((Far.refl (fun b => b = p14) wr).st (fun _ => rfl) _).st (fun _ => rfl) _).st (fun _ => rfl) _⟩
     have hbx : Below w.heap.size w wx := by rw [← hwx]; exact ((hbr.setCell (by dsimp only; omega) _).setCell (by dsimp only; omega) _).setCell (by dsimp only; omega) _
     have HWX := Lib.hid hwx
     replace B4 := B4.farS hfx (by omega)
     replace P10 := P10.farS hfx (by omega)
     replace q0 := (q0.farS hfx (fun b hb _ => by omega)).wide (G := anyB) (fun _ _ _ => trivial)
     replace q1 := (q1.farS hfx (fun b hb _ => by omega)).wide (G := anyB) (fun _ _ _ => trivial)
     replace q2 := q2.farS hfx (fun h => by have := q2l h; omega)
     replace hh := hh.farS hfx (fun e => by have := hhl; omega)
     replace h0 := h0.farS hfx (fun b hb _ => by omega)
     have hb40 := B4.cell 0
     have hP0 := P10.cell 0
     have hP1 := P10.cell 1
     have hP2 := P10.cell 2
     have hPz := P10.lt
     clear hfx R14 hbr hf0 HF HS HX hwx
     have R14 := R14x
     clear R14x
     have r4 : RowAt Form.lay wx anyB none 0 0 0 0 ([] : List Lay) := RowAt.nil _ _ _
     have r5 : RowAt Form.grd wx anyB none 0 0 0 0 ([] : List Grd) := RowAt.nil _ _ _
     have rX : IntsAt wx none 0 0 0 0 [] := ⟨rfl, Nat.le_refl _, Nat.zero_le _, fun h => absurd h (Nat.lt_irrefl _), fun h => absurd h (Nat.lt_irrefl _), fun i hi => absurd hi (Nat.not_lt_zero _)⟩
     go_wp2_with fail
     rw [HWX.out]
     -- facts at wx: hbx; the boxes P10 R14 B4; q0 q1 q2 (what the program answers), r4 r5 rX (the document's); hh h0
     refine (error_any f f _ hh).mono ?_
     rintro e w21 ⟨rfl, hb21⟩
     rw [decide_eq_true rfl]
     have hs0 := Lib.hid hb21
     replace P10 := P10.keep hb21
     replace R14 := R14.keep hb21
     replace B4 := B4.keep hb21
     replace q0 := q0.keep hb21
     replace q1 := q1.keep hb21
     replace q2 := q2.keep hb21
     replace r4 := r4.keep hb21
     replace r5 := r5.keep hb21
     replace rX := rX.keep hb21
     replace h0 := h0.keep hb21
     have P0 := P10.cell 0
     have P1 := P10.cell 1
     have P2 := P10.cell 2
     have R0 := R14.cell 0
     have R1 := R14.cell 1
     have R2 := R14.cell 2
     have PZ := P10.lt
     have RZ := R14.lt
     go_wp2_with fail
     refine (states1_same ⟨[], [], 0⟩ _ _ _ ⟨_, _, _, _, _, _, _, _, _, _, rfl, q0, q1⟩ ⟨_, _, _, _, _, _, _, _, _, _, rfl, r4, r5⟩).mono ?_
     rintro e w22 ⟨rfl, hb22⟩
     replace B4 := B4.keep hb22
     replace q2 := q2.keep hb22
     replace rX := rX.keep hb22
     replace h0 := h0.keep hb22
     clear P0 P1 P2 R0 R1 R2 PZ RZ P10 R14 q0 q1 r4 r5
     go_wp2_with fail
     refine (ints_any _ _ _ _ _ _ _ _ _ _ [] [] _ q2 rX).mono ?_
     rintro e w23 ⟨rfl, hd23⟩
     have hb23 : Below w22.heap.size w22 w23 := by obtain ⟨nd, rfl⟩ := hd23; exact ⟨rfl, rfl, rfl, Nat.le_refl _, fun _ _ => rfl⟩
     rw [decide_eq_true rfl]
     replace B4 := B4.keep hb23
     replace h0 := h0.keep hb23
     have b40 := B4.cell 0
     have zB4 := B4.lt
     clear q2 rX
     go_wp2_with fail
     refine (trainBegin_any s.N _ _ _ _ _ _ _ h0 HZM.out HZN.out).mono ?_
     rintro e w24 ⟨vB, rfl, hb24, aN, nN, kN, bN, aV, nV, kV, bV, rfl, y0, y1⟩
     replace B4 := B4.keep hb24
     replace h0 := h0.keep hb24
     have b40 := B4.cell 0
     have zB4 := B4.lt
     go_wp2_with fail
     refine (layers_same s.N _ _ _ _ _ _ _ _ _ _ _ _ _ (y0.alloc _) (h0.alloc _)).mono ?_
     rintro e w25 ⟨rfl, hb25⟩
     have B21 := (Box.new w24 [.slice aN nN kN, .slice aV nV kV, .int .i64 0] 53).keep hb25
     have B21c := B21.cell
     have B21f := B21.thawed
     have B21z := B21.lt
     have B21k := lt_add B21z
     replace B4 := B4.keep ((Below.x1 hb25) : Below w24.heap.size w24 w25)
     replace h0 := h0.keep ((Below.x1 hb25) : Below w24.heap.size w24 w25)
     replace y1 := y1.keep ((Below.x1 hb25) : Below w24.heap.size w24 w25)
     have b40 := B4.cell 0
     have zB4 := B4.lt
     go_wp2_with fail
     refine (netZero_any s.N _ _ _ _ _ _ _ h0 HZM.out (by have := HZN.out; omega)).mono ?_
     rintro e w26 ⟨aZ, kZ, bZ, rfl, hb26, rZ⟩
     replace B21 := B21.keep hb26
     replace y1 := y1.keep hb26
     have B21c := B21.cell
     have B21z := B21.lt
     go_wp2_with fail
     refine (grads_same (zeroNet s.N) _ _ _ _ _ _ _ _ _ _ _ _ _ y1 rZ).mono ?_
     rintro e w27 ⟨rfl, hb27⟩
     replace B21 := B21.keep hb27
     have B21c := B21.cell
     have B21z := B21.lt
     have hbe : Below w.heap.size w w27 := (by repeat (first | (with_reducible first | exact Below.refl _ _ | exact hbx | refine Below.al ?_ _ | refine Below.drN ?_ _ | refine Below.drew ?_ | refine Below.sx ?_ _ | refine Below.go ?_ hb27 | refine Below.go ?_ hb26 | refine Below.go ?_ hb25 | refine Below.go ?_ hb24 | refine Below.go ?_ hb23 | refine Below.go ?_ hb22 | refine Below.go ?_ hb21) | exact Below.refl _ _ | exact hbx))
     clear y0 y1 rZ h0 B4 b40
     go_wp2
     go_ret
     exact ⟨rfl, hbe⟩
  ·have HFT0 : Hid (ftAt s l p ln kp L 0 = 0) := Lib.hid (by unfold ftAt; rw [if_neg hL, if_neg hL0]; rfl)
   have e1 : ((L : Int) > 20) = False := eq_false (by omega)
   have e2 : ((L : Int) == 0) = false := by rw [beq_eq_false_iff_ne]; omega
   -- the world at the loop: w2.alloc (.cells #[.slice c0 m0 l0, .slice c1 m1 l1, .int .i64 S.steps] 53) and the document's state's box
   obtain ⟨p14, hp14⟩ : ∃ p14, w2.heap.size + 1 = p14 := ⟨_, rfl⟩
   obtain ⟨we, hwe⟩ : ∃ we, (w2.alloc (.cells #[.slice c0 m0 l0, .slice c1 m1 l1, .int .i64 S.steps] 53)).alloc (.cells #[.slice a0 n k0, .slice a1 n1 k1, .int .i64 s.steps] 47) = we := ⟨_, rfl⟩
   have hb2e : Below w2.heap.size w2 we := by rw [← hwe]; exact Below.x0
   have hbe : Below w.heap.size w we := hbw2.trans (hb2e.mono hbw2.size)
   have P10 : Box we w2.heap.size [.slice c0 m0 l0, .slice c1 m1 l1, .int .i64 S.steps] 53 := by rw [← hwe]; exact Box.x0
   have R14 : Box we p14 [.slice a0 n k0, .slice a1 n1 k1, .int .i64 s.steps] 47 := by rw [← hwe, ← hp14]; exact Box.x0
   have HWE := Lib.hid hwe
   have HP14 := Lib.hid hp14
   have hpz : w2.heap.size < p14 := by omega
   have hwz2 := hbw2.size
   have B4e := B4.keep hb2e
   have B7e := B7.keep hb2e
   replace q0 := (q0.wide (G := fun b => b < w2.heap.size) (fun b _ h => h)).keep hb2e
   replace q1 := (q1.wide (G := fun b => b < w2.heap.size) (fun b _ h => h)).keep hb2e
   have q2l := q2.lt
   replace q2 := q2.keep hb2e
   replace hh := hh.keep hb2e
   replace h0 := h0w.keep (hbe : Below w.heap.size w we)
   replace h1 := h1w.keep (hbe : Below w.heap.size w we)
   replace hl := hlw.keep (hbe : Below w.heap.size w we)
   have hz14 := R14.lt
   clear hwe hp14 B7c B7f B7z B7k hb2e
   go_wp2_with fail
   rw [HWE.out]
   try rw [HP14.out]
   replace B4 := B4e
   replace B7 := B7e
   clear B4c B4f B4z B4k hbw2 B4e B7e
   go_loopw [13, 15, 16] (fun e u j wr => ∃ (t : Nat) (c4 c5 : Option Addr) (m4 m5 l4 l5 d4 d5 p4 p5 : Nat) (z : Int) (Y : List Int), t ≤ L ∧ e = .int .i64 (ftAt s l p ln kp L t) ∧ j = .int .i64 t ∧ Far (fun b => b = p14) we wr ∧ Box wr p14 [.slice c4 m4 l4, .slice c5 m5 l5, .int .i64 z] 47 ∧ OwnRow Form.int 3 wr we.heap.size noI u Y ∧ Y.length = t ∧
     (ftAt s l p ln kp L t = 0 → z = (allSt s l p ln kp t).steps ∧ RowAt Form.lay wr (fun b => b ≠ p14) c4 m4 l4 d4 p4 (allSt s l p ln kp t).N ∧ RowAt Form.grd wr (fun b => b ≠ p14) c5 m5 l5 d5 p5 (allSt s l p ln kp t).V ∧ Y = allOffs s l p ln kp t)) (fun _ _ j _ => L - (intOf j).toNat)
   case atStart => exact ⟨0, a0, a1, n, n1, k0, k1, b0, b1, o0, o1, s.steps, [], Nat.zero_le _, by rw [HFT0.out], rfl, Far.refl _ _, R14, OwnRow.nil _ _ _ _ _, rfl, fun _ => ⟨rfl, h0.wide (fun b hb _ => by omega), h1.wide (fun b hb _ => by omega), rfl⟩⟩
   case round =>
    clear HFT0
    obtain ⟨t, c4, c5, m4, m5, l4, l5, d4, d5, p4, p5, z, Y, ht, rfl, rfl, hfr, R14, hown, hYl, hrd⟩ := hrel
    have hzr := hfr.size
    replace B4 := B4.farS hfr (by omega)
    replace B7 := B7.farS hfr (by omega)
    replace P10 := P10.farS hfr (by omega)
    replace hl := hl.farS hfr (fun b hb _ => by omega)
    replace h0 := h0.farS hfr (fun b hb _ => by omega)
    have hbr : Below w.heap.size w wr := Far.toBelow hbe hfr (by omega) (fun k e => by omega)
    have rz14 := R14.lt
    have rc0 := R14.cell 0
    have rc1 := R14.cell 1
    have rc2 := R14.cell 2
    obtain ⟨g, hg⟩ : ∃ g, ftAt s l p ln kp L t = g := ⟨_, rfl⟩
    rw [hg] at hrd ⊢
    have HG := Lib.hid hg
    clear hg
    by_cases hlt : t < L ∧ g = 0
    ·obtain ⟨hlt, rfl⟩ := hlt
     have hltI : ((t : Int) < (L : Int)) = True := eq_true (by omega)
     have ht0 : (0 : Int) ≤ (t : Int) := by omega
     obtain ⟨rfl, r4, r5, rfl⟩ := hrd rfl
     have hft : allFt s l p ln kp t = 0 ∧ ¬ 20 < L := by
      have h9 := HG.out
      unfold ftAt at h9
      by_cases h8 : 20 < L
      ·rw [if_pos h8] at h9; exact absurd h9 (by decide)
      ·rw [if_neg h8, if_neg (by omega)] at h9; exact ⟨h9, h8⟩
     obtain rfl := hl.ptr (by omega)
     obtain ⟨aA, nA, kA, bA, oA, aB, nB, kB, bB, oB, x0, x1, x2, x3, x4, x5, y1, y2⟩ := bat_cells (i := t) (d := bx l t) hl (bx_get (by rw [HLN.out]; exact hlt))
     obtain ⟨St, hSt⟩ : ∃ St, allSt s l p ln kp t = St := ⟨_, rfl⟩
     obtain ⟨d, hd⟩ : ∃ d, bx l t = d := ⟨_, rfl⟩
     rw [hSt] at R14 rc2 r4 r5
     rw [hd] at x0 x1 x3 x4 y1 y2
     have HFN : Hid (ftAt s l p ln kp L (t + 1) = oneFault St d p ln kp) := Lib.hid (by unfold ftAt; rw [if_neg hft.2, if_neg (by omega), allFt_next hft.1, hSt, hd])
     have HSN : Hid (allSt s l p ln kp (t + 1) = oneOf St d p ln kp) := Lib.hid (by rw [← hSt, ← hd]; rfl)
     have HON : Hid (allOffs s l p ln kp (t + 1) = allOffs s l p ln kp t ++ [oneOff St d p]) := Lib.hid (by rw [allOffs_succ, hSt, hd])
     have HBO : Hid (∀ b, u15.ownBlock = some b → we.heap.size ≤ b ∧ b < wr.heap.size) := Lib.hid hown.base_le
     obtain ⟨Y, hY⟩ : ∃ Y, allOffs s l p ln kp t = Y := ⟨_, rfl⟩
     rw [hY] at hown hYl HON
     have b70 := B7.cell 0
     have b71 := B7.cell 1
     have HWR := Lib.hid hzr
     have hL20 : L ≤ 20 := by have := hft.2; omega
     have HPQ := Lib.hid (And.intro hbr hfr)
     clear hSt hd hft hrd hl B4 P10 h0 hY hbr
     go_wp2_with fail
     go_cut [13, 17] (fun e x wx => ∃ (offr : Int) (a6 a7 : Option Addr) (n6 n7 k6 k7 b6 b7 : Nat) (z7 : Int), e = .int .i64 (oneFault St d p ln kp) ∧ x = .int .i64 offr ∧ Box wx p14 [.slice a6 n6 k6, .slice a7 n7 k7, .int .i64 z7] 47 ∧ Far (fun b => b = p14) wr wx ∧
      (oneFault St d p ln kp = 0 → offr = oneOff St d p ∧ z7 = (oneOf St d p ln kp).steps ∧ RowAt Form.lay wx (newB wr.heap.size) a6 n6 k6 b6 0 (oneOf St d p ln kp).N ∧ RowAt Form.grd wx (newB wr.heap.size) a7 n7 k7 b7 0 (oneOf St d p ln kp).V))
     case first =>
      go_region_law ((go_simp; go_at_call 19; refine (refOneOf_any St d p ln kp _ _ _ _ _ _ _ _ _ _ _ _ _ _ (r4.keep Below.x0) (r5.keep Below.x0) ⟨aA, nA, kA, bA, oA, aB, nB, kB, bB, oB, rfl, y1.keep Below.x0, y2.keep Below.x0⟩).mono ?_; rintro e w5 ⟨vR, offr, rfl, hb5, hR, hR'⟩; obtain ⟨a6, n6, k6, b6, a7, n7, k7, b7, z7, rfl, hQ⟩ := one_ends hR hR'; have R5 : Box w5 p14 [.slice c4 m4 l4, .slice c5 m5 l5, .int .i64 St.steps] 47 := (by first | exact R14.k1 hb5 | exact R14.k); have s0 := R5.cell 0; have s1 := R5.cell 1; have s2 := R5.cell 2; have f0 := R5.thawed 0; have f1 := R5.thawed 1; have f2 := R5.thawed 2))
      all_goals (
       have hb5w : Below wr.heap.size wr w5 := (Below.x1 hb5)
       have hf5 : Far (fun b => b = p14) w5 (((w5.setCell ⟨p14, 0, none⟩ (.slice a6 n6 k6)).setCell ⟨p14, 1, none⟩ (.slice a7 n7 k7)).setCell ⟨p14, 2, none⟩ (.int .i64 z7)) := (((Far.refl (fun b => b = p14) w5).st (fun _ => rfl) _).st (fun _ => rfl) _).st (fun _ => rfl) _
       have hno : ∀ X : World, Below wr.heap.size wr X → ∀ c, newB X.heap.size c → c ≠ p14 := fun X hX c hc e => by have h9 : X.heap.size ≤ c := hc; have := hX.size; omega
       have hno2 : ∀ X : World, Below wr.heap.size wr X → ∀ c, newB X.heap.size c → newB wr.heap.size c := fun X hX c hc => Nat.le_trans hX.size hc
       go_wp2_with fail
       go_meet
       exact ⟨offr, a6, a7, n6, n7, k6, k7, b6, b7, z7, rfl, rfl, ((R5.set 0 _).set 1 _).set 2 _, (Far.of_below hb5w).trans hf5, fun h => ⟨(hQ h).1, (hQ h).2.1, ((hQ h).2.2.1.farS hf5 (fun c hc _ => hno _ Below.x0 c hc)).wide (fun c hc _ => hno2 _ Below.x0 c hc), ((hQ h).2.2.2.farS hf5 (fun c hc _ => hno _ Below.x0 c hc)).wide (fun c hc _ => hno2 _ Below.x0 c hc)⟩⟩)
     case rest =>
     obtain ⟨offr, a6, a7, n6, n7, k6, k7, b6, b7, z7, rfl, rfl, R14, hfc, hR⟩ := hcut
     have hzc := hfc.size
     have hnb : ∀ b, (b < we.heap.size ∨ wr.heap.size ≤ b) → some b ≠ u15.ownBlock := fun b hb e => by have := HBO.out b e.symm; omega
     have hownc : OwnRow Form.int 3 wc we.heap.size noI u15 Y := hown.farS hfc (fun b hb => by have := HBO.out b hb; omega) (fun b hb => hb.elim)
     clear r4 r5 y1 y2 x0 x1 x2 x3 x4 x5 b70 b71 rc0 rc1 rc2 hown B7
     go_wp2_with (at_builtin; go_must (refine wpList_push rfl (.tmp 71) (.tmp 73) 23 rfl Form.int we.heap.size noI 3 i0 (.int .i64 0) 8 Tryz.underlying23 hi hz0 hz1 hz2 rfl (by decide) u15 Y rfl (hownc.keep Below.x0) wc.heap.size 1 [.int .i64 offr] 3 offr rfl (Box.new _ _ _) rfl (by rw [hYl]; omega) (by rw [hYl]; unfold maxLen; omega) (by simp; omega) _ rfl ?_))
     intro gg cap wG hownG hgrow hlies hgs
     have hwG : Below wc.heap.size wc (wc.alloc (.cells #[.int .i64 offr] 3)) := Below.x0
     have hfG : Far (fun b => b = p14) we wG := ((hfr.trans hfc).al _).grown hgrow (fun k hk hl => absurd (HBO.out k hk).1 (by omega))
     have RG := (R14.alloc (.cells #[.int .i64 offr] 3)).grown hgrow (hnb _ (by omega))
     have HNEW : Hid (oneFault St d p ln kp = 0 → z7 = (oneOf St d p ln kp).steps ∧ RowAt Form.lay wG (fun b => b ≠ p14) a6 n6 k6 b6 0 (oneOf St d p ln kp).N ∧ RowAt Form.grd wG (fun b => b ≠ p14) a7 n7 k7 b7 0 (oneOf St d p ln kp).V ∧ Y ++ [offr] = Y ++ [oneOff St d p]) := Lib.hid (fun h => by
      obtain ⟨h1, h2, h3, h4⟩ := hR h
      refine ⟨h2, ((h3.keep hwG).kept (w' := wG) (fun b hF hl => hgrow.block b hl (hnb b (Or.inr hF)))).wide (fun b hF _ e => by have h9 : wr.heap.size ≤ b := hF; omega), ((h4.keep hwG).kept (w' := wG) (fun b hF hl => hgrow.block b hl (hnb b (Or.inr hF)))).wide (fun b hF _ e => by have h9 : wr.heap.size ≤ b := hF; omega), by rw [h1]⟩)
     have HRG := Lib.hid (And.intro hfG (And.intro RG hownG))
     try rw [hYl]
     have hYl2 : (Y ++ [offr]).length = t + 1 := by rw [List.length_append, hYl]; rfl
     have HYL := Lib.hid hYl2
     clear hR hwG hfG RG hownG hgrow hlies hnb hownc R14 hfc hfr hYl2
     rw [← HFN.out, ← HSN.out, ← HON.out] at HNEW
     try rw [hYl] at HRG
     rw [← HFN.out]
     go_wp2
     go_roundw
     case rel => exact ⟨t + 1, a6, a7, n6, n7, k6, k7, b6, b7, 0, 0, z7, Y ++ [offr], by omega, rfl, by go_num, HRG.out.1, HRG.out.2.1, by have := HRG.out.2.2; first | exact this | (rw [hYl] at this; exact this), HYL.out, HNEW.out⟩
     case measure => simp [intOf]; omega
    ·have hfg : f = g := by
      rw [← HF.out, ← HG.out]
      unfold allFault ftAt
      rw [HLN.out]
      rcases Nat.lt_or_ge t L with h | h
      ·have hg0 : g ≠ 0 := fun e => hlt ⟨h, e⟩
       have h9 := HG.out
       unfold ftAt at h9
       rw [if_neg (by omega), if_neg (by omega)] at h9
       rw [if_neg (by omega), if_neg (by omega), if_neg (by omega), if_neg (by omega)]
       exact allFt_stays ht (by rw [h9]; exact hg0)
      ·obtain rfl : t = L := by omega
       rfl
     subst hfg
     replace q0 := q0.farS hfr (fun b hb _ => by omega)
     replace q1 := q1.farS hfr (fun b hb _ => by omega)
     replace q2 := q2.farS hfr (fun h => by have := q2l h; omega)
     replace hh := hh.farS hfr (fun e => by have := hhl; omega)
     clear h1 hl hfr B7 HG
     by_cases hf0 : f = 0
     ·obtain rfl : t = L := by
       rcases Nat.lt_or_ge t L with h | h
       ·exact absurd ⟨h, hf0⟩ hlt
       ·omega
      obtain ⟨rfl, r4, r5, rfl⟩ := hrd hf0
      have hSL : S = allSt s l p ln kp t := by rw [← HS.out]; unfold finSta; rw [if_pos (HF.out.trans hf0), HLN.out]
      have hXL : X = allOffs s l p ln kp t := by rw [← HX.out]; unfold finOff; rw [if_pos (HF.out.trans hf0), HLN.out]
      rw [← hSL] at R14 rc2 r4 r5
      rw [← hXL] at hown
      obtain ⟨aX, kX, bX, rfl, _, rX'⟩ := hown.row (G := anyB) (fun _ h _ => h.elim) (fun _ _ => trivial)
      have rX := rX'.ints
      obtain ⟨nX, hnX⟩ : ∃ nX, X.length = nX := ⟨_, rfl⟩
      rw [hnX] at rX ⊢
      have hltN : ((t : Int) < (t : Int)) = False := eq_false (by omega)
      clear hrd hown rX' hSL hXL hnX hlt hYl hzr
      -- what was learned is whole: at wr
      have hg1 : (f == 0) = true := by rw [beq_iff_eq]; exact hf0
      have hg2 : (f != 0) = false := by rw [bne_eq_false_iff_eq]; exact hf0
      have hb40 := B4.cell 0
      have hP0 := P10.cell 0
      have hP1 := P10.cell 1
      have hP2 := P10.cell 2
      have hPz := P10.lt
      replace q0 := q0.wide (G := anyB) (fun _ _ _ => trivial)
      replace q1 := q1.wide (G := anyB) (fun _ _ _ => trivial)
      replace r4 := r4.wide (G := anyB) (fun _ _ _ => trivial)
      replace r5 := r5.wide (G := anyB) (fun _ _ _ => trivial)
      have hbx := hbr
      clear hf0 HF HS HX hbr
      go_wp2_with fail
      -- facts at wr: hbx; the boxes P10 R14 B4; q0 q1 q2 (what the program answers), r4 r5 rX (the document's); hh h0
      refine (error_any f f _ hh).mono ?_
      rintro e w21 ⟨rfl, hb21⟩
      rw [decide_eq_true rfl]
      have hs0 := Lib.hid hb21
      replace P10 := P10.keep hb21
      replace R14 := R14.keep hb21
      replace B4 := B4.keep hb21
      replace q0 := q0.keep hb21
      replace q1 := q1.keep hb21
      replace q2 := q2.keep hb21
      replace r4 := r4.keep hb21
      replace r5 := r5.keep hb21
      replace rX := rX.keep hb21
      replace h0 := h0.keep hb21
      have P0 := P10.cell 0
      have P1 := P10.cell 1
      have P2 := P10.cell 2
      have R0 := R14.cell 0
      have R1 := R14.cell 1
      have R2 := R14.cell 2
      have PZ := P10.lt
      have RZ := R14.lt
      go_wp2_with fail
      refine (states1_same S _ _ _ ⟨_, _, _, _, _, _, _, _, _, _, rfl, q0, q1⟩ ⟨_, _, _, _, _, _, _, _, _, _, rfl, r4, r5⟩).mono ?_
      rintro e w22 ⟨rfl, hb22⟩
      replace B4 := B4.keep hb22
      replace q2 := q2.keep hb22
      replace rX := rX.keep hb22
      replace h0 := h0.keep hb22
      clear P0 P1 P2 R0 R1 R2 PZ RZ P10 R14 q0 q1 r4 r5
      go_wp2_with fail
      refine (ints_any _ _ _ _ _ _ _ _ _ _ _ _ _ q2 rX).mono ?_
      rintro e w23 ⟨rfl, hd23⟩
      have hb23 : Below w22.heap.size w22 w23 := by obtain ⟨nd, rfl⟩ := hd23; exact ⟨rfl, rfl, rfl, Nat.le_refl _, fun _ _ => rfl⟩
      rw [decide_eq_true rfl]
      replace B4 := B4.keep hb23
      replace h0 := h0.keep hb23
      have b40 := B4.cell 0
      have zB4 := B4.lt
      clear q2 rX
      go_wp2_with fail
      refine (trainBegin_any s.N _ _ _ _ _ _ _ h0 HZM.out HZN.out).mono ?_
      rintro e w24 ⟨vB, rfl, hb24, aN, nN, kN, bN, aV, nV, kV, bV, rfl, y0, y1⟩
      replace B4 := B4.keep hb24
      replace h0 := h0.keep hb24
      have b40 := B4.cell 0
      have zB4 := B4.lt
      go_wp2_with fail
      refine (layers_same s.N _ _ _ _ _ _ _ _ _ _ _ _ _ (y0.alloc _) (h0.alloc _)).mono ?_
      rintro e w25 ⟨rfl, hb25⟩
      have B21 := (Box.new w24 [.slice aN nN kN, .slice aV nV kV, .int .i64 0] 53).keep hb25
      have B21c := B21.cell
      have B21f := B21.thawed
      have B21z := B21.lt
      have B21k := lt_add B21z
      replace B4 := B4.keep ((Below.x1 hb25) : Below w24.heap.size w24 w25)
      replace h0 := h0.keep ((Below.x1 hb25) : Below w24.heap.size w24 w25)
      replace y1 := y1.keep ((Below.x1 hb25) : Below w24.heap.size w24 w25)
      have b40 := B4.cell 0
      have zB4 := B4.lt
      go_wp2_with fail
      refine (netZero_any s.N _ _ _ _ _ _ _ h0 HZM.out (by have := HZN.out; omega)).mono ?_
      rintro e w26 ⟨aZ, kZ, bZ, rfl, hb26, rZ⟩
      replace B21 := B21.keep hb26
      replace y1 := y1.keep hb26
      have B21c := B21.cell
      have B21z := B21.lt
      go_wp2_with fail
      refine (grads_same (zeroNet s.N) _ _ _ _ _ _ _ _ _ _ _ _ _ y1 rZ).mono ?_
      rintro e w27 ⟨rfl, hb27⟩
      replace B21 := B21.keep hb27
      have B21c := B21.cell
      have B21z := B21.lt
      have hbe : Below w.heap.size w w27 := (by repeat (first | (with_reducible first | exact Below.refl _ _ | exact hbx | refine Below.al ?_ _ | refine Below.drN ?_ _ | refine Below.drew ?_ | refine Below.sx ?_ _ | refine Below.go ?_ hb27 | refine Below.go ?_ hb26 | refine Below.go ?_ hb25 | refine Below.go ?_ hb24 | refine Below.go ?_ hb23 | refine Below.go ?_ hb22 | refine Below.go ?_ hb21) | exact Below.refl _ _ | exact hbx))
      clear y0 y1 rZ h0 B4 b40
      go_wp2
      go_ret
      exact ⟨rfl, hbe⟩
     ·clear hrd hown hYl hzr
      rcases Nat.lt_or_ge t L with hq | hq
      ·have hltI : ((t : Int) < (L : Int)) = True := eq_true (by omega)
       clear hlt
       -- something is wrong: at wr
       have hg1 : (f == 0) = false := by rw [beq_eq_false_iff_ne]; exact hf0
       have hg2 : (f != 0) = true := by rw [bne_iff_ne]; exact hf0
       obtain rfl : S = ⟨[], [], 0⟩ := by rw [← HS.out]; unfold finSta; rw [if_neg (by rw [HF.out]; exact hf0)]
       obtain rfl : X = [] := by rw [← HX.out]; unfold finOff; rw [if_neg (by rw [HF.out]; exact hf0)]
       have f0 := R14.thawed 0
       have f1 := R14.thawed 1
       have f2 := R14.thawed 2
       have rz14 := R14.lt
       have rc0 := R14.cell 0
       have rc1 := R14.cell 1
       have rc2 := R14.cell 2
       obtain ⟨wx, hwx, R14x, hfx⟩ : ∃ wx, (((wr.setCell ⟨p14, 0, none⟩ (.slice none 0 0)).setCell ⟨p14, 1, none⟩ (.slice none 0 0)).setCell ⟨p14, 2, none⟩ (.int .i64 0)) = wx ∧ Box wx p14 [.slice none 0 0, .slice none 0 0, .int .i64 0] 47 ∧ Far (fun b => b = p14) wr wx :=
        ⟨_, rfl, ((R14.set 0 _).set 1 _).set 2 _, (((Far.refl (fun b => b = p14) wr).st (fun _ => rfl) _).st (fun _ => rfl) _).st (fun _ => rfl) _⟩
       have hbx : Below w.heap.size w wx := by rw [← hwx]; exact ((hbr.setCell (by dsimp only; omega) _).setCell (by dsimp only; omega) _).setCell (by dsimp only; omega) _
       have HWX := Lib.hid hwx
       replace B4 := B4.farS hfx (by omega)
       replace P10 := P10.farS hfx (by omega)
       replace q0 := (q0.farS hfx (fun b hb _ => by omega)).wide (G := anyB) (fun _ _ _ => trivial)
       replace q1 := (q1.farS hfx (fun b hb _ => by omega)).wide (G := anyB) (fun _ _ _ => trivial)
       replace q2 := q2.farS hfx (fun h => by have := q2l h; omega)
       replace hh := hh.farS hfx (fun e => by have := hhl; omega)
       replace h0 := h0.farS hfx (fun b hb _ => by omega)
       have hb40 := B4.cell 0
       have hP0 := P10.cell 0
       have hP1 := P10.cell 1
       have hP2 := P10.cell 2
       have hPz := P10.lt
       clear hfx R14 hbr hf0 HF HS HX hwx
       have R14 := R14x
       clear R14x
       have r4 : RowAt Form.lay wx anyB none 0 0 0 0 ([] : List Lay) := RowAt.nil _ _ _
       have r5 : RowAt Form.grd wx anyB none 0 0 0 0 ([] : List Grd) := RowAt.nil _ _ _
       have rX : IntsAt wx none 0 0 0 0 [] := ⟨rfl, Nat.le_refl _, Nat.zero_le _, fun h => absurd h (Nat.lt_irrefl _), fun h => absurd h (Nat.lt_irrefl _), fun i hi => absurd hi (Nat.not_lt_zero _)⟩
       go_wp2_with fail
       rw [HWX.out]
       -- facts at wx: hbx; the boxes P10 R14 B4; q0 q1 q2 (what the program answers), r4 r5 rX (the document's); hh h0
       refine (error_any f f _ hh).mono ?_
       rintro e w21 ⟨rfl, hb21⟩
       rw [decide_eq_true rfl]
       have hs0 := Lib.hid hb21
       replace P10 := P10.keep hb21
       replace R14 := R14.keep hb21
       replace B4 := B4.keep hb21
       replace q0 := q0.keep hb21
       replace q1 := q1.keep hb21
       replace q2 := q2.keep hb21
       replace r4 := r4.keep hb21
       replace r5 := r5.keep hb21
       replace rX := rX.keep hb21
       replace h0 := h0.keep hb21
       have P0 := P10.cell 0
       have P1 := P10.cell 1
       have P2 := P10.cell 2
       have R0 := R14.cell 0
       have R1 := R14.cell 1
       have R2 := R14.cell 2
       have PZ := P10.lt
       have RZ := R14.lt
       go_wp2_with fail
       refine (states1_same ⟨[], [], 0⟩ _ _ _ ⟨_, _, _, _, _, _, _, _, _, _, rfl, q0, q1⟩ ⟨_, _, _, _, _, _, _, _, _, _, rfl, r4, r5⟩).mono ?_
       rintro e w22 ⟨rfl, hb22⟩
       replace B4 := B4.keep hb22
       replace q2 := q2.keep hb22
       replace rX := rX.keep hb22
       replace h0 := h0.keep hb22
       clear P0 P1 P2 R0 R1 R2 PZ RZ P10 R14 q0 q1 r4 r5
       go_wp2_with fail
       refine (ints_any _ _ _ _ _ _ _ _ _ _ [] [] _ q2 rX).mono ?_
       rintro e w23 ⟨rfl, hd23⟩
       have hb23 : Below w22.heap.size w22 w23 := by obtain ⟨nd, rfl⟩ := hd23; exact ⟨rfl, rfl, rfl, Nat.le_refl _, fun _ _ => rfl⟩
       rw [decide_eq_true rfl]
       replace B4 := B4.keep hb23
       replace h0 := h0.keep hb23
       have b40 := B4.cell 0
       have zB4 := B4.lt
       clear q2 rX
       go_wp2_with fail
       refine (trainBegin_any s.N _ _ _ _ _ _ _ h0 HZM.out HZN.out).mono ?_
       rintro e w24 ⟨vB, rfl, hb24, aN, nN, kN, bN, aV, nV, kV, bV, rfl, y0, y1⟩
       replace B4 := B4.keep hb24
       replace h0 := h0.keep hb24
       have b40 := B4.cell 0
       have zB4 := B4.lt
       go_wp2_with fail
       refine (layers_same s.N _ _ _ _ _ _ _ _ _ _ _ _ _ (y0.alloc _) (h0.alloc _)).mono ?_
       rintro e w25 ⟨rfl, hb25⟩
       have B21 := (Box.new w24 [.slice aN nN kN, .slice aV nV kV, .int .i64 0] 53).keep hb25
       have B21c := B21.cell
       have B21f := B21.thawed
       have B21z := B21.lt
       have B21k := lt_add B21z
       replace B4 := B4.keep ((Below.x1 hb25) : Below w24.heap.size w24 w25)
       replace h0 := h0.keep ((Below.x1 hb25) : Below w24.heap.size w24 w25)
       replace y1 := y1.keep ((Below.x1 hb25) : Below w24.heap.size w24 w25)
       have b40 := B4.cell 0
       have zB4 := B4.lt
       go_wp2_with fail
       refine (netZero_any s.N _ _ _ _ _ _ _ h0 HZM.out (by have := HZN.out; omega)).mono ?_
       rintro e w26 ⟨aZ, kZ, bZ, rfl, hb26, rZ⟩
       replace B21 := B21.keep hb26
       replace y1 := y1.keep hb26
       have B21c := B21.cell
       have B21z := B21.lt
       go_wp2_with fail
       refine (grads_same (zeroNet s.N) _ _ _ _ _ _ _ _ _ _ _ _ _ y1 rZ).mono ?_
       rintro e w27 ⟨rfl, hb27⟩
       replace B21 := B21.keep hb27
       have B21c := B21.cell
       have B21z := B21.lt
       have hbe : Below w.heap.size w w27 := (by repeat (first | (with_reducible first | exact Below.refl _ _ | exact hbx | refine Below.al ?_ _ | refine Below.drN ?_ _ | refine Below.drew ?_ | refine Below.sx ?_ _ | refine Below.go ?_ hb27 | refine Below.go ?_ hb26 | refine Below.go ?_ hb25 | refine Below.go ?_ hb24 | refine Below.go ?_ hb23 | refine Below.go ?_ hb22 | refine Below.go ?_ hb21) | exact Below.refl _ _ | exact hbx))
       clear y0 y1 rZ h0 B4 b40
       go_wp2
       go_ret
       exact ⟨rfl, hbe⟩
      ·have hltI : ((t : Int) < (L : Int)) = False := eq_false (by omega)
       clear hlt
       -- something is wrong: at wr
       have hg1 : (f == 0) = false := by rw [beq_eq_false_iff_ne]; exact hf0
       have hg2 : (f != 0) = true := by rw [bne_iff_ne]; exact hf0
       obtain rfl : S = ⟨[], [], 0⟩ := by rw [← HS.out]; unfold finSta; rw [if_neg (by rw [HF.out]; exact hf0)]
       obtain rfl : X = [] := by rw [← HX.out]; unfold finOff; rw [if_neg (by rw [HF.out]; exact hf0)]
       have f0 := R14.thawed 0
       have f1 := R14.thawed 1
       have f2 := R14.thawed 2
       have rz14 := R14.lt
       have rc0 := R14.cell 0
       have rc1 := R14.cell 1
       have rc2 := R14.cell 2
       obtain ⟨wx, hwx, R14x, hfx⟩ : ∃ wx, (((wr.setCell ⟨p14, 0, none⟩ (.slice none 0 0)).setCell ⟨p14, 1, none⟩ (.slice none 0 0)).setCell ⟨p14, 2, none⟩ (.int .i64 0)) = wx ∧ Box wx p14 [.slice none 0 0, .slice none 0 0, .int .i64 0] 47 ∧ Far (fun b => b = p14) wr wx :=
        ⟨_, rfl, ((R14.set 0 _).set 1 _).set 2 _, (((Far.refl (fun b => b = p14) wr).st (fun _ => rfl) _).st (fun _ => rfl) _).st (fun _ => rfl) _⟩
       have hbx : Below w.heap.size w wx := by rw [← hwx]; exact ((hbr.setCell (by dsimp only; omega) _).setCell (by dsimp only; omega) _).setCell (by dsimp only; omega) _
       have HWX := Lib.hid hwx
       replace B4 := B4.farS hfx (by omega)
       replace P10 := P10.farS hfx (by omega)
       replace q0 := (q0.farS hfx (fun b hb _ => by omega)).wide (G := anyB) (fun _ _ _ => trivial)
       replace q1 := (q1.farS hfx (fun b hb _ => by omega)).wide (G := anyB) (fun _ _ _ => trivial)
       replace q2 := q2.farS hfx (fun h => by have := q2l h; omega)
       replace hh := hh.farS hfx (fun e => by have := hhl; omega)
       replace h0 := h0.farS hfx (fun b hb _ => by omega)
       have hb40 := B4.cell 0
       have hP0 := P10.cell 0
       have hP1 := P10.cell 1
       have hP2 := P10.cell 2
       have hPz := P10.lt
       clear hfx R14 hbr hf0 HF HS HX hwx
       have R14 := R14x
       clear R14x
       have r4 : RowAt Form.lay wx anyB none 0 0 0 0 ([] : List Lay) := RowAt.nil _ _ _
       have r5 : RowAt Form.grd wx anyB none 0 0 0 0 ([] : List Grd) := RowAt.nil _ _ _
       have rX : IntsAt wx none 0 0 0 0 [] := ⟨rfl, Nat.le_refl _, Nat.zero_le _, fun h => absurd h (Nat.lt_irrefl _), fun h => absurd h (Nat.lt_irrefl _), fun i hi => absurd hi (Nat.not_lt_zero _)⟩
       go_wp2_with fail
       rw [HWX.out]
       -- facts at wx: hbx; the boxes P10 R14 B4; q0 q1 q2 (what the program answers), r4 r5 rX (the document's); hh h0
       refine (error_any f f _ hh).mono ?_
       rintro e w21 ⟨rfl, hb21⟩
       rw [decide_eq_true rfl]
       have hs0 := Lib.hid hb21
       replace P10 := P10.keep hb21
       replace R14 := R14.keep hb21
       replace B4 := B4.keep hb21
       replace q0 := q0.keep hb21
       replace q1 := q1.keep hb21
       replace q2 := q2.keep hb21
       replace r4 := r4.keep hb21
       replace r5 := r5.keep hb21
       replace rX := rX.keep hb21
       replace h0 := h0.keep hb21
       have P0 := P10.cell 0
       have P1 := P10.cell 1
       have P2 := P10.cell 2
       have R0 := R14.cell 0
       have R1 := R14.cell 1
       have R2 := R14.cell 2
       have PZ := P10.lt
       have RZ := R14.lt
       go_wp2_with fail
       refine (states1_same ⟨[], [], 0⟩ _ _ _ ⟨_, _, _, _, _, _, _, _, _, _, rfl, q0, q1⟩ ⟨_, _, _, _, _, _, _, _, _, _, rfl, r4, r5⟩).mono ?_
       rintro e w22 ⟨rfl, hb22⟩
       replace B4 := B4.keep hb22
       replace q2 := q2.keep hb22
       replace rX := rX.keep hb22
       replace h0 := h0.keep hb22
       clear P0 P1 P2 R0 R1 R2 PZ RZ P10 R14 q0 q1 r4 r5
       go_wp2_with fail
       refine (ints_any _ _ _ _ _ _ _ _ _ _ [] [] _ q2 rX).mono ?_
       rintro e w23 ⟨rfl, hd23⟩
       have hb23 : Below w22.heap.size w22 w23 := by obtain ⟨nd, rfl⟩ := hd23; exact ⟨rfl, rfl, rfl, Nat.le_refl _, fun _ _ => rfl⟩
       rw [decide_eq_true rfl]
       replace B4 := B4.keep hb23
       replace h0 := h0.keep hb23
       have b40 := B4.cell 0
       have zB4 := B4.lt
       clear q2 rX
       go_wp2_with fail
       refine (trainBegin_any s.N _ _ _ _ _ _ _ h0 HZM.out HZN.out).mono ?_
       rintro e w24 ⟨vB, rfl, hb24, aN, nN, kN, bN, aV, nV, kV, bV, rfl, y0, y1⟩
       replace B4 := B4.keep hb24
       replace h0 := h0.keep hb24
       have b40 := B4.cell 0
       have zB4 := B4.lt
       go_wp2_with fail
       refine (layers_same s.N _ _ _ _ _ _ _ _ _ _ _ _ _ (y0.alloc _) (h0.alloc _)).mono ?_
       rintro e w25 ⟨rfl, hb25⟩
       have B21 := (Box.new w24 [.slice aN nN kN, .slice aV nV kV, .int .i64 0] 53).keep hb25
       have B21c := B21.cell
       have B21f := B21.thawed
       have B21z := B21.lt
       have B21k := lt_add B21z
       replace B4 := B4.keep ((Below.x1 hb25) : Below w24.heap.size w24 w25)
       replace h0 := h0.keep ((Below.x1 hb25) : Below w24.heap.size w24 w25)
       replace y1 := y1.keep ((Below.x1 hb25) : Below w24.heap.size w24 w25)
       have b40 := B4.cell 0
       have zB4 := B4.lt
       go_wp2_with fail
       refine (netZero_any s.N _ _ _ _ _ _ _ h0 HZM.out (by have := HZN.out; omega)).mono ?_
       rintro e w26 ⟨aZ, kZ, bZ, rfl, hb26, rZ⟩
       replace B21 := B21.keep hb26
       replace y1 := y1.keep hb26
       have B21c := B21.cell
       have B21z := B21.lt
       go_wp2_with fail
       refine (grads_same (zeroNet s.N) _ _ _ _ _ _ _ _ _ _ _ _ _ y1 rZ).mono ?_
       rintro e w27 ⟨rfl, hb27⟩
       replace B21 := B21.keep hb27
       have B21c := B21.cell
       have B21z := B21.lt
       have hbe : Below w.heap.size w w27 := (by repeat (first | (with_reducible first | exact Below.refl _ _ | exact hbx | refine Below.al ?_ _ | refine Below.drN ?_ _ | refine Below.drew ?_ | refine Below.sx ?_ _ | refine Below.go ?_ hb27 | refine Below.go ?_ hb26 | refine Below.go ?_ hb25 | refine Below.go ?_ hb24 | refine Below.go ?_ hb23 | refine Below.go ?_ hb22 | refine Below.go ?_ hb21) | exact Below.refl _ _ | exact hbx))
       clear y0 y1 rZ h0 B4 b40
       go_wp2
       go_ret
       exact ⟨rfl, hbe⟩
theorem own : ownKnob Tryz.prog.godebug = none := by kernel_rfl
theorem laidOut : laidOutB Tryz.prog = true := by kernel_rfl
theorem et : Tryz.prog.globalNamed "errors.errorType" = some 0 := by kernel_rfl
theorem rt : (Tryz.prog.cutTypes.find? (·.1 == "internal/reflectlite.rtype")).map (·.2) = some 182 := by kernel_rfl
theorem oneRow : ((List.range 229).filter fun t => Tryz.prog.rowNamed t [101, 114, 114, 111, 114]) = [28] := by kernel_rfl
theorem tsize : Tryz.prog.types.size = 229 := by kernel_rfl
theorem handle_of_laid {W : World} (h : laidMetH Tryz.prog Rows.trainAllsRow.laid W) : Handle W := by
 have h' : laidMet Tryz.prog [] W ∧ handlesMet Tryz.prog Rows.trainAllsRow.laid W := h
 obtain ⟨name, u, ty, e1, e2, e3, e4, e5⟩ := h'.2 _ (List.mem_singleton.2 rfl)
 have en : name = [101, 114, 114, 111, 114] := (Option.some.inj e1).symm
 subst en
 obtain rfl := Option.some.inj (rt.symm.trans e2)
 have hm : ty ∈ (List.range 229).filter fun t => Tryz.prog.rowNamed t [101, 114, 114, 111, 114] := List.mem_filter.2 ⟨List.mem_range.2 (by rw [← tsize]; exact e3), e4⟩
 rw [oneRow] at hm
 obtain rfl := List.mem_singleton.1 hm
 have hh : typeHandle Tryz.prog 28 = .pointer (some ⟨1, 28, none⟩) := by kernel_rfl
 rw [hh] at e5
 simpa [Handle, handleV] using World.var?_cell et e5 0
noncomputable def laidWorld (os : Os) : World :=
 { World.holding Tryz.prog os ⟨#[], #[], []⟩ with heap := (World.holding Tryz.prog os ⟨#[], #[], []⟩).heap.modify 0 fun
   | .cells _ t frozen => .cells #[.iface 182 (.agg #[.pointer (some ⟨1, 28, none⟩)])] t frozen
   | o => o }
theorem laid_met (os : Os) : laidMetH Tryz.prog Rows.trainAllsRow.laid ((laidWorld os).forCall (fun _ _ => 0) ⟨#[], #[.agg #[.slice none 0 0, .slice none 0 0, .int .i64 0], .slice none 0 0, .int .i64 0, .agg #[.int .i64 0, .int .i64 0]], []⟩).memory :=
 laidMetH_of_parts (laidMet_nil _ _) (by kernel_rfl)
theorem reads (os : Os) {H : Type} (enc : TypeId × Value → H) : ∃ places, DataW.whole enc Tryz.prog ((laidWorld os).forCall (fun _ _ => 0) ⟨#[], #[.agg #[.slice none 0 0, .slice none 0 0, .int .i64 0], .slice none 0 0, .int .i64 0, .agg #[.int .i64 0, .int .i64 0]], []⟩).memory Tryz.f5.params.toList Rows.trainAllsSpec.vars false (#[.agg #[.slice none 0 0, .slice none 0 0, .int .i64 0], .slice none 0 0, .int .i64 0, .agg #[.int .i64 0, .int .i64 0]] : Array Value).toList 8 = some ([.agg [.nil, .nil, .lit (.int .i64 0)], .nil, .lit (.int .i64 0), .agg [.lit (.int .i64 0), .lit (.int .i64 0)]], [], places) :=
 ⟨[], by kernel_rfl⟩
set_option maxRecDepth 100000 in
set_option maxHeartbeats 1000000 in
theorem contract (H : Type) (enc : TypeId × Value → H) (W : World) (base : Nat) (args : Array Value) (ds gs : List (DataW H)) (before : List MemPlace)
  (hval0 : ∀ (j : Nat) t v, Tryz.f5.params[j]? = some t → args[j]? = some v → Value.okWide Tryz.prog W .any base t v)
  (hW : DataW.Whole enc Tryz.prog Tryz.f5.params.toList Rows.trainAllsSpec.vars false W args.toList ds gs before) (hh : Handle W) (hs0 : (DataW.weightsEach Tryz.prog (Tryz.f5.params.toList ++ (OpenSpec.ofChange Rows.trainAllsSpec).bare.plain.varTypes Tryz.prog) (ds ++ gs)).all (· ≤ reachBytes) = true) :
  Calls Tryz.prog 5 args W fun e W' => ∃ v, e = .returned v ∧ Rows.trainAllsSpec.post enc Tryz.prog Tryz.f5 false true false false W args v W' := by
 have hval := hval0
 have hW' := hW
 obtain ⟨p, q, hA0, hV, rfl, hfz, hnd⟩ := hW
 have hA : DataW.TrodAll enc Tryz.prog W 0 (fun _ => true) true Tryz.f5.params.toList args.toList ds p := hA0
 rw [Tryz.params5] at hA hval
 obtain ⟨v0, vs0, d0, ds0, p0, q0, hargs, rfl, rfl, h0, r0⟩ := trodAll_cons hA
 obtain ⟨v1, vs1, d1, ds1, p1, q1, rfl, rfl, rfl, h1, r1⟩ := trodAll_cons r0
 obtain ⟨v2, vs2, d2, ds2, p2, q2, rfl, rfl, rfl, h2, r2⟩ := trodAll_cons r1
 obtain ⟨v3, vs3, d3, ds3, p3, q3, rfl, rfl, rfl, h3, r3⟩ := trodAll_cons r2
 obtain ⟨rfl, rfl, rfl⟩ := trodAll_nil r3
 obtain rfl : args = #[v0, v1, v2, v3] := by cases args; simp_all
 obtain ⟨rfl, rfl⟩ := trodVars_none hV
 have hs : Gal.Within (DataW.weightsEach Tryz.prog [47, 62, 3, 51] [d0, d1, d2, d3]) := hs0
 simp only [DataW.weightsEach] at hs
 have s0 := hs.left
 have s1 := hs.right.left
 have s2 := hs.right.right.left
 have s3 := hs.right.right.right.left
 clear hs hs0
 have k0 := h0
 have lt0 : ∀ x ∈ p0, x.block < W.heap.size := by obtain ⟨m, hm⟩ := k0; exact DataW.trod_lt m _ _ _ hm
 have k1 := h1
 have lt1 : ∀ x ∈ p1, x.block < W.heap.size := by obtain ⟨m, hm⟩ := k1; exact DataW.trod_lt m _ _ _ hm
 have k2 := h2
 have lt2 : ∀ x ∈ p2, x.block < W.heap.size := by obtain ⟨m, hm⟩ := k2; exact DataW.trod_lt m _ _ _ hm
 have k3 := h3
 have lt3 : ∀ x ∈ p3, x.block < W.heap.size := by obtain ⟨m, hm⟩ := k3; exact DataW.trod_lt m _ _ _ hm
 obtain ⟨a0, w0⟩ := open_galley_galleyref1_State_sized (hval 0 47 v0 rfl rfl) h0 s0
 obtain ⟨a1, w1⟩ := open_lBatch_sized (hval 1 62 v1 rfl rfl) h1 s1
 obtain ⟨a2, rfl, rfl, rfl, w2⟩ := open_int Tryz.underlying3 (hval 2 3 v2 rfl rfl) h2
 obtain ⟨a3, w3⟩ := open_Rates_sized (hval 3 51 v3 rfl rfl) h3 s3
 clear hA0 hval0
 refine (walk a0 v0 a1 v1 a2 a3 v3 W w0 w1 w2 w3 hh).mono fun e W' ⟨he, bel⟩ => ?_
 subst he
 exact ⟨_, rfl, _, _, _, [], _, [], hW', trodAll_mk1 (shut_bool Tryz.underlying4 _), (trodAll_cons_mk (Below.trod laidOut (by kernel_rfl) (of_decide_eq_true (by kernel_rfl)) k0 bel lt0) (trodAll_cons_mk (Below.trod laidOut (by kernel_rfl) (of_decide_eq_true (by kernel_rfl)) k1 bel lt1) (trodAll_cons_mk (Below.trod laidOut (by kernel_rfl) (of_decide_eq_true (by kernel_rfl)) k2 bel lt2) (trodAll_cons_mk (Below.trod laidOut (by kernel_rfl) (of_decide_eq_true (by kernel_rfl)) k3 bel lt3) trodAll_mk0)))), rfl, bel.frame _, fun h => by cases h⟩
set_option maxRecDepth 100000 in
theorem lifted (os : Os) (started : os.Started) (H : Type) (enc : TypeId × Value → H) (F : Stop.Interp) :
  ReturnsInHanded {} Tryz.checked os 5 .any ((OpenSpec.ofChange Rows.trainAllsSpec).preRow enc Tryz.prog Tryz.f5 Rows.trainAllsRow.domain false Rows.trainAllsRow.laid) (((OpenSpec.ofChange Rows.trainAllsSpec).at F).post enc Tryz.prog Tryz.f5 false true false false) := by
 obtain ⟨places, hx⟩ := reads os enc
 refine returnsInHanded_of_row (C := Tryz.checked) (s := OpenSpec.ofChange Rows.trainAllsSpec) own started (by kernel_rfl) Tryz.func5
  (witness_row_at (enc := enc) (C := Tryz.checked) false (laidWorld os) #[.agg #[.slice none 0 0, .slice none 0 0, .int .i64 0], .slice none 0 0, .int .i64 0, .agg #[.int .i64 0, .int .i64 0]] rfl (by kernel_rfl) (by kernel_rfl) (by kernel_rfl)
   (OpenSpec.preRow_of_cond 8 hx (by kernel_rfl) (fun k hk => by cases hk) (by kernel_rfl) (laid_met os))) ?_
 intro W base args ds gs before hval hW _ _ hsz hL _ _
 exact contract H enc W base args ds gs before hval hW (handle_of_laid hL) hsz
theorem said : Rows.TrainAllsSaid :=
 OpenClaim.holds_of_cond 5 Tryz.f5 rfl rfl rfl rfl rfl rfl rfl ⟨rfl, rfl, rfl, rfl, rfl⟩ rfl rfl rfl rfl rfl (by kernel_rfl) Tryz.func5 (by kernel_rfl)
  (of_decide_eq_true (by kernel_rfl)) (by unfold Func.isWrapper; first | (rw [if_pos (by decide +kernel)]; kernel_rfl) | (rw [if_neg (by decide +kernel)]; exact ⟨rfl, rfl⟩))
  (fun os started H enc _ F => by rw [OpenClaim.pre_eq_preRow]; exact lifted os started H enc F)
theorem plain (f : FuncId) (fn : Func) (hf : Tryz.pinned.checked.prog.funcNamed Rows.trainAllsRow.func = some f) (hfn : Tryz.pinned.checked.prog.funcs[f]? = some fn) :
  Rows.trainAllsCard.stood.looks = Tryz.pinned.checked.prog.looks [] ∧ ∀ (j : Nat) t, fn.params[j]? = some t → Tryz.pinned.checked.prog.wantsStandIn t = false := by
 obtain rfl : f = 5 := Option.some.inj ((show Tryz.prog.funcNamed Rows.trainAllsRow.func = some 5 by kernel_rfl).symm.trans hf) |>.symm
 obtain rfl : fn = Tryz.f5 := (Option.some.inj (Tryz.func5.symm.trans hfn)).symm
 refine ⟨by kernel_rfl, fun j t ht => ?_⟩
 rw [Tryz.params5] at ht
 have hm := Array.mem_of_getElem? ht
 have hc : t = 47 ∨ t = 62 ∨ t = 3 ∨ t = 51 := by simpa using hm
 rcases hc with rfl | rfl | rfl | rfl
 ·exact (show Tryz.prog.wantsStandIn 47 = false by kernel_rfl)
 ·exact (show Tryz.prog.wantsStandIn 62 = false by kernel_rfl)
 ·exact (show Tryz.prog.wantsStandIn 3 = false by kernel_rfl)
 ·exact (show Tryz.prog.wantsStandIn 51 = false by kernel_rfl)
theorem proved : Rows.TrainAllsCardSaid :=
 Claim7.holds_tied_plain_at .later [] _ _ _ _ said (fun _ h => by cases h) (by kernel_rfl) (fun _ h => by cases h) trainAlls_row_tie rfl ⟨rfl, rfl⟩ (by kernel_rfl) rfl plain (by kernel_rfl)
#print axioms proved
end Go.Proofs.YtgknjikjjklaiaaGreatDoor.lawTrainAlls
