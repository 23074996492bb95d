/- Contracts of package clock: end, place, costs. -/
import Derived.Test.YtjaepdkeldgikaaDoorPlan6
import Derived.Test.YtjaepdkeldgikaaDoorPClk
import Derived.BigQuiet
set_option linter.unusedVariables false
set_option linter.unusedSimpArgs false
set_option linter.unusedSectionVars false
set_option maxRecDepth 100000
namespace Go.Proofs.YtjaepdkeldgikaaDoor
open Go.RowKit Gal Go.Maps
set_option maxHeartbeats 4000000
theorem at3_row : 102 < Tryd.prog.types.size := by decide +kernel
theorem at3_key : Tryd.prog.keyTypeAt 3 102 = true := by kernel_rfl
theorem at3_wide : (match Tryd.prog.underlying 102 with | some (.array _ _) | some (.struct _) => true | _ => false) = true := by kernel_rfl
theorem at3_keyed : Keyed Tryd.prog 102 := Keyed.of_law (deep_law_laid plan_laidOut (m := 3) (by omega) at3_row at3_key at3_wide)
theorem at3_keyOf {x : Int × ActD} (h0 : 0 ≤ x.1 ∧ x.1 < 6) (h : actOk 12 x.2) : ∃ kl, keyOf Tryd.prog 102 (atV x) = some kl := by
  obtain ⟨s, i, j, hs, hi, hj, rfl⟩ := small_at h0 h
  have hall : ∀ s : Fin 6, ∀ i : Fin 2, ∀ j : Fin 12, (keyOf Tryd.prog 102 (atV ((s.val : Int), ((i.val : Int) + 1, (j.val : Int))))).isSome = true := by decide +kernel
  exact Option.isSome_iff_exists.1 (hall ⟨s, hs⟩ ⟨i, hi⟩ ⟨j, hj⟩)
/-- the dial: its box, and its map -/
structure DialAt (w : World) (D B : Nat) (vp vt vb : Value) (l : List ((Int × ActD) × Int)) : Prop where
  box : Box w D [vp, vt, vb, .map (some B)] 93
  map : MapIs Tryd.prog 102 atV w B l
theorem DialAt.keep {w w' : World} {D B : Nat} {vp vt vb : Value} {l : List ((Int × ActD) × Int)} (h : DialAt w D B vp vt vb l) (hb : Below w.heap.size w w') : DialAt w' D B vp vt vb l := ⟨h.box.keep hb, h.map.keep hb⟩
theorem DialAt.alloc {w : World} {D B : Nat} {vp vt vb : Value} {l : List ((Int × ActD) × Int)} (h : DialAt w D B vp vt vb l) (o : Obj) : DialAt (w.alloc o) D B vp vt vb l := ⟨h.box.alloc o, h.map.alloc o⟩
theorem DialAt.drewN {w : World} {D B : Nat} {vp vt vb : Value} {l : List ((Int × ActD) × Int)} (h : DialAt w D B vp vt vb l) (q : Nat) : DialAt (w.drewN q) D B vp vt vb l := ⟨h.box.drewN q, h.map.drewN q⟩
theorem clkEnd_any (s : Int) (a : ActD) (D B : Nat) (pa : Option Addr) (n k : Nat) (vt vb : Value) (l : List ((Int × ActD) × Int)) (w : World) (h : DialAt w D B (.slice pa n k) vt vb l) (hn : n ≤ 6) (ha : actOk 12 a) :
    Calls Tryd.prog 56 #[.pointer (some ⟨D, 0, none⟩), .int .i64 s, .agg #[.int .i64 a.1, .int .i64 a.2]] w fun e w' => e = .returned (.tuple #[.int .i64 (endOf n l s a).1, .bool (endOf n l s a).2]) ∧ Below w.heap.size w w' := by
  have h2 := h.alloc (.cells #[.int .i64 a.1, .int .i64 a.2] 73)
  have c0 := h2.box.cell 0
  have c3 := h2.box.cell 3
  by_cases g1 : s < 0
  · have HE := Lib.hid (endOf_out (n := n) (l := l) (a := a) (Or.inl g1))
    clear h h2 ha
    go_enter Tryd.func56, Tryd.ntmps56
    go_wp2
    go_ret2
    exact ⟨by rw [HE.out]; rfl, (by repeat (first | fail | (with_reducible exact Below.refl _ _) | (with_reducible refine Below.al ?_ _) | (with_reducible refine Below.drN ?_ _) | (with_reducible refine Below.drew ?_) | (with_reducible refine Below.st ?_ ?_ _; rotate_left 1; (first | (dsimp only; omega) | omega | (simp; omega) | simp)) | exact Below.refl _ _))⟩
  · have e1 : (s < 0) = False := by simp; omega
    by_cases g2 : (n : Int) ≤ s
    · have HE := Lib.hid (endOf_out (n := n) (l := l) (a := a) (Or.inr g2))
      have e2 : s ≥ (n : Int) := g2
      clear h h2 ha g1
      go_enter Tryd.func56, Tryd.ntmps56
      go_wp2
      go_ret2
      exact ⟨by rw [HE.out]; rfl, (by repeat (first | fail | (with_reducible exact Below.refl _ _) | (with_reducible refine Below.al ?_ _) | (with_reducible refine Below.drN ?_ _) | (with_reducible refine Below.drew ?_) | (with_reducible refine Below.st ?_ ?_ _; rotate_left 1; (first | (dsimp only; omega) | omega | (simp; omega) | simp)) | exact Below.refl _ _))⟩
    · have hE := endOf_in (n := n) (l := l) (a := a) (s := s) (by omega)
      have e2 : (s ≥ (n : Int)) = False := by simp; omega
      obtain ⟨kl, hkl⟩ := at3_keyOf (x := (s, a)) (by dsimp only; omega) ha
      have hlk := fun q => (h2.map.drewN q).lookup_ok at3_keyed Tryd.underlying91 zero_int atV_inj hkl
      obtain ⟨t0, ht0⟩ : ∃ t0, Gal.look l (s, a) = t0 := ⟨_, rfl⟩
      obtain ⟨b0, hb0⟩ : ∃ b0, hasK l (s, a) = b0 := ⟨_, rfl⟩
      rw [ht0, hb0] at hE hlk
      have HE := Lib.hid hE
      unfold atV at hlk
      dsimp only at hlk
      clear h h2 ha g1 g2 hkl hE ht0 hb0
      go_enter Tryd.func56, Tryd.ntmps56
      go_wp2
      go_quiet (fail)
      go_wp2
      go_ret2
      exact ⟨by rw [HE.out]; rfl, (by repeat (first | fail | (with_reducible exact Below.refl _ _) | (with_reducible refine Below.al ?_ _) | (with_reducible refine Below.drN ?_ _) | (with_reducible refine Below.drew ?_) | (with_reducible refine Below.st ?_ ?_ _; rotate_left 1; (first | (dsimp only; omega) | omega | (simp; omega) | simp)) | exact Below.refl _ _))⟩
end Go.Proofs.YtjaepdkeldgikaaDoor
