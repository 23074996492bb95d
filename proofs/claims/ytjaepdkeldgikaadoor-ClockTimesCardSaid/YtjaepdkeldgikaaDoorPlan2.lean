/- Contracts of package plan: was it done, can it be done? -/
import Derived.Test.YtjaepdkeldgikaaDoorPlan1
set_option linter.unusedVariables false
set_option linter.unusedSimpArgs false
set_option linter.unusedSectionVars false
namespace Gal
open Go
/-- an act of a stage as a value -/
def atV (x : Int × ActD) : Value := .agg #[.int .i64 x.1, .int .i64 x.2.1, .int .i64 x.2.2]
theorem atV_inj {x y : Int × ActD} (h : atV x = atV y) : x = y := by
  unfold atV at h
  simp only [Value.agg.injEq] at h
  have h1 := congrArg Array.toList h
  simp at h1
  exact Prod.ext h1.1 (Prod.ext h1.2.1 h1.2.2)
theorem small_at {x : Int × ActD} (h0 : 0 ≤ x.1 ∧ x.1 < 6) (h : actOk 12 x.2) : ∃ s i j : Nat, s < 6 ∧ i < 2 ∧ j < 12 ∧ x = ((s : Int), ((i : Int) + 1, (j : Int))) := by
  obtain ⟨i, j, hi, hj, h1⟩ := small_act h
  exact ⟨x.1.toNat, i, j, by omega, hi, hj, Prod.ext (by dsimp only; omega) h1⟩
/-- was it done? -/
def doneL (l : List ((Int × ActD) × Int)) (s : Int) (a : ActD) : Bool := look l (s, a) == 1
/-- can it be done? -/
def readyL (l : List ((Int × ActD) × Int)) (S s : Int) (a : ActD) : Bool :=
  if a.1 = 1 then (if s = 0 then true else doneL l (s - 1) a) else (if doneL l s (1, a.2) = true then (if s = S - 1 then true else doneL l (s + 1) a) else false)
end Gal
namespace Go.Proofs.YtjaepdkeldgikaaDoor
open Go.RowKit Gal Go.Maps
set_option maxRecDepth 100000
set_option maxHeartbeats 2000000
theorem at_row : 78 < Tryd.prog.types.size := by decide +kernel
theorem at_key : Tryd.prog.keyTypeAt 3 78 = true := by kernel_rfl
theorem at_wide : (match Tryd.prog.underlying 78 with | some (.array _ _) | some (.struct _) => true | _ => false) = true := by kernel_rfl
theorem at_keyed : Keyed Tryd.prog 78 := Keyed.of_law (deep_law_laid plan_laidOut (m := 3) (by omega) at_row at_key at_wide)
theorem at_keyOf {x : Int × ActD} (h0 : 0 ≤ x.1 ∧ x.1 < 6) (h : actOk 12 x.2) : ∃ kl, keyOf Tryd.prog 78 (atV x) = some kl := by
  obtain ⟨s, i, j, hs, hi, hj, rfl⟩ := small_at h0 h
  have hall : ∀ s : Fin 6, ∀ i : Fin 2, ∀ j : Fin 12, (keyOf Tryd.prog 78 (atV ((s.val : Int), ((i.val : Int) + 1, (j.val : Int))))).isSome = true := by decide +kernel
  exact Option.isSome_iff_exists.1 (hall ⟨s, hs⟩ ⟨i, hi⟩ ⟨j, hj⟩)
/-- the map of what was done, and the block that leads to it -/
def DidAt (w : World) (pd B : Nat) (l : List ((Int × ActD) × Int)) : Prop := Box w pd [.map (some B)] 76 ∧ MapIs Tryd.prog 78 atV w B l
theorem DidAt.keep {w w' : World} {pd B : Nat} {l : List ((Int × ActD) × Int)} (h : DidAt w pd B l) (hb : Below w.heap.size w w') : DidAt w' pd B l := ⟨h.1.keep hb, h.2.keep hb⟩
theorem DidAt.alloc {w : World} {pd B : Nat} {l : List ((Int × ActD) × Int)} (h : DidAt w pd B l) (o : Obj) : DidAt (w.alloc o) pd B l := ⟨h.1.alloc o, h.2.alloc o⟩
theorem done_any (s : Int) (a : ActD) (pd B : Nat) (l : List ((Int × ActD) × Int)) (w : World) (h : DidAt w pd B l) (hs : 0 ≤ s ∧ s < 6) (ha : actOk 12 a) :
    Calls Tryd.prog 40 #[.int .i64 s, .agg #[.int .i64 a.1, .int .i64 a.2], .pointer (some ⟨pd, 0, none⟩)] w fun e w' => e = .returned (.bool (doneL l s a)) ∧ Below w.heap.size w w' := by
  obtain ⟨kl, hkl⟩ := at_keyOf (x := (s, a)) hs ha
  obtain ⟨hp, hm⟩ := h
  have hlk := (hm.alloc (.cells #[.int .i64 a.1, .int .i64 a.2] 73)).lookup at_keyed Tryd.underlying76 zero_int atV_inj hkl
  have cp := (hp.alloc (.cells #[.int .i64 a.1, .int .i64 a.2] 73)).cell 0
  unfold atV at hlk
  dsimp only at hlk
  clear hm hp hkl
  go_enter Tryd.func40, Tryd.ntmps40
  go_wp2
  go_ret
  exact ⟨rfl, (by repeat (first | fail | (with_reducible exact Below.refl _ _) | (with_reducible refine Below.al ?_ _) | (with_reducible refine Below.drN ?_ _) | (with_reducible refine Below.drew ?_) | (with_reducible refine Below.st ?_ ?_ _; rotate_left 1; (first | (dsimp only; omega) | omega | (simp; omega) | simp)) | exact Below.refl _ _))⟩
theorem ready_any (S s : Int) (a : ActD) (pd B : Nat) (l : List ((Int × ActD) × Int)) (w : World) (h : DidAt w pd B l) (hs : 0 ≤ s ∧ s < S) (hS : S ≤ 6) (ha : actOk 12 a) :
    Calls Tryd.prog 41 #[.func (.func 40) #[] #[.pointer (some ⟨pd, 0, none⟩)], .int .i64 S, .int .i64 s, .agg #[.int .i64 a.1, .int .i64 a.2]] w fun e w' => e = .returned (.bool (readyL l S s a)) ∧ Below w.heap.size w w' := by
  obtain ⟨s0, s1⟩ := hs
  have HA := Lib.hid ha
  have ha1 := ha.1
  have hD := h.alloc (.cells #[.int .i64 a.1, .int .i64 a.2] 73)
  have HR : Hid (readyL l S s a = if a.1 = 1 then (if s = 0 then true else doneL l (s - 1) a) else (if doneL l s (1, a.2) = true then (if s = S - 1 then true else doneL l (s + 1) a) else false)) := Lib.hid rfl
  obtain ⟨R, hR⟩ : ∃ R, readyL l S s a = R := ⟨_, rfl⟩
  rw [hR] at HR ⊢
  clear hR
  obtain ⟨x0, x1⟩ := a
  dsimp only at ha1 HR hD ⊢
  by_cases k1 : x0 = 1
  · have e1 : (x0 == 1) = true := by simp [k1]
    by_cases k2 : s = 0
    · have e2 : (s == 0) = true := by simp [k2]
      have HV : Hid (R = true) := Lib.hid (by rw [HR.out, if_pos k1, if_pos k2])
      clear k1 k2 ha1 ha
      go_enter Tryd.func41, Tryd.ntmps41
      go_wp2
      go_ret
      exact ⟨by rw [HV.out]; rfl, (by repeat (first | fail | (with_reducible exact Below.refl _ _) | (with_reducible refine Below.al ?_ _) | (with_reducible refine Below.drN ?_ _) | (with_reducible refine Below.drew ?_) | (with_reducible refine Below.st ?_ ?_ _; rotate_left 1; (first | (dsimp only; omega) | omega | (simp; omega) | simp)) | exact Below.refl _ _))⟩
    · have e2 : (s == 0) = false := by simp [k2]
      have HV : Hid (R = doneL l (s - 1) (x0, x1)) := Lib.hid (by rw [HR.out, if_pos k1, if_neg k2])
      have s2 : 1 ≤ s := by omega
      clear k1 k2 ha1 ha
      go_enter Tryd.func41, Tryd.ntmps41
      go_wp2_with fail
      refine (done_any (s - 1) (x0, x1) pd B l _ hD (by omega) HA.out).mono ?_
      rintro e w1 ⟨rfl, hb1⟩
      go_wp2
      go_ret
      exact ⟨by rw [HV.out]; rfl, (by repeat (first | fail | (with_reducible exact Below.refl _ _) | (with_reducible refine Below.al ?_ _) | (with_reducible refine Below.drN ?_ _) | (with_reducible refine Below.drew ?_) | (with_reducible refine Below.st ?_ ?_ _; rotate_left 1; (first | (dsimp only; omega) | omega | (simp; omega) | simp)) | (with_reducible refine Below.go ?_ hb1) | exact Below.refl _ _))⟩
  · have e1 : (x0 == 1) = false := by simp [k1]
    have HAF : Hid (actOk 12 (1, x1)) := Lib.hid ⟨Or.inl rfl, ha.2⟩
    by_cases k3 : doneL l s (1, x1) = true
    · by_cases k2 : s = S - 1
      · have e2 : (s == S - 1) = true := by simp [k2]
        have HV : Hid (R = true) := Lib.hid (by rw [HR.out, if_neg k1, if_pos k3, if_pos k2])
        have K3 := Lib.hid k3
        clear k1 k2 k3 ha1 ha
        go_enter Tryd.func41, Tryd.ntmps41
        go_wp2_with fail
        refine (done_any s (1, x1) pd B l _ hD (by omega) HAF.out).mono ?_
        rintro e w1 ⟨rfl, hb1⟩
        rw [K3.out]
        have Bx := (Box.new w [.int .i64 x0, .int .i64 x1] 73).keep hb1
        have d0 := Bx.cell 0
        have d1 := Bx.cell 1
        go_wp2
        go_ret
        exact ⟨by rw [HV.out]; rfl, (by repeat (first | fail | (with_reducible exact Below.refl _ _) | (with_reducible refine Below.al ?_ _) | (with_reducible refine Below.drN ?_ _) | (with_reducible refine Below.drew ?_) | (with_reducible refine Below.st ?_ ?_ _; rotate_left 1; (first | (dsimp only; omega) | omega | (simp; omega) | simp)) | (with_reducible refine Below.go ?_ hb1) | exact Below.refl _ _))⟩
      · have e2 : (s == S - 1) = false := by simp [k2]
        have HV : Hid (R = doneL l (s + 1) (x0, x1)) := Lib.hid (by rw [HR.out, if_neg k1, if_pos k3, if_neg k2])
        have s2 : s + 1 < S := by omega
        have K3 := Lib.hid k3
        clear k1 k2 k3 ha1 ha
        go_enter Tryd.func41, Tryd.ntmps41
        go_wp2_with fail
        refine (done_any s (1, x1) pd B l _ hD (by omega) HAF.out).mono ?_
        rintro e w1 ⟨rfl, hb1⟩
        rw [K3.out]
        have Bx := (Box.new w [.int .i64 x0, .int .i64 x1] 73).keep hb1
        have d0 := Bx.cell 0
        have d1 := Bx.cell 1
        go_wp2_with fail
        refine (done_any (s + 1) (x0, x1) pd B l _ (hD.keep hb1) (by omega) HA.out).mono ?_
        rintro e w2 ⟨rfl, hb2⟩
        go_wp2
        go_ret
        exact ⟨by rw [HV.out]; rfl, (by repeat (first | fail | (with_reducible exact Below.refl _ _) | (with_reducible refine Below.al ?_ _) | (with_reducible refine Below.drN ?_ _) | (with_reducible refine Below.drew ?_) | (with_reducible refine Below.st ?_ ?_ _; rotate_left 1; (first | (dsimp only; omega) | omega | (simp; omega) | simp)) | (with_reducible refine Below.go ?_ hb2) | (with_reducible refine Below.go ?_ hb1) | exact Below.refl _ _))⟩
    · have HV : Hid (R = false) := Lib.hid (by rw [HR.out, if_neg k1, if_neg k3])
      have K3 : Hid (doneL l s (1, x1) = false) := Lib.hid (by simpa using k3)
      clear k1 k3 ha1 ha
      go_enter Tryd.func41, Tryd.ntmps41
      go_wp2_with fail
      refine (done_any s (1, x1) pd B l _ hD (by omega) HAF.out).mono ?_
      rintro e w1 ⟨rfl, hb1⟩
      rw [K3.out]
      go_wp2
      go_ret
      exact ⟨by rw [HV.out]; rfl, (by repeat (first | fail | (with_reducible exact Below.refl _ _) | (with_reducible refine Below.al ?_ _) | (with_reducible refine Below.drN ?_ _) | (with_reducible refine Below.drew ?_) | (with_reducible refine Below.st ?_ ?_ _; rotate_left 1; (first | (dsimp only; omega) | omega | (simp; omega) | simp)) | (with_reducible refine Below.go ?_ hb1) | exact Below.refl _ _))⟩
end Go.Proofs.YtjaepdkeldgikaaDoor
