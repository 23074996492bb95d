/- The reference: Seven, SumsOf, Octets. -/
import Derived.Test.YtgknjikjjklaiaaDoorWire1
import Derived.Test.YtgknjikjjklaiaaDoorJWorld
import Derived.BigQuiet
set_option linter.unusedVariables false
set_option linter.unusedSimpArgs false
set_option linter.unusedSectionVars false
set_option maxRecDepth 100000
namespace Gal
def refStep (s : Nat × Nat) (v : Nat) : Nat × Nat := (s.1 + v, s.2 + (s.1 + v) % 255)
theorem refSums_eq (l : List Nat) : refSums l = l.foldl refStep (0, 0) := rfl
end Gal
namespace Go.Proofs.YtgknjikjjklaiaaDoor
open Go.RowKit Gal
set_option maxHeartbeats 4000000
theorem refSeven_any (x : Nat) : ∀ (w : World), x ≤ 9223372036854775807 →
    Calls Tryd.prog 36 #[.int .i64 (x : Int)] w fun e w' => ∃ v', e = .returned v' ∧ OwnRow Form.u8 5 w' w.heap.size noK v' (seven x) ∧ Below w.heap.size w w' := by
  induction x using Nat.strongRecOn with
  | ind x ih =>
    intro w hx
    by_cases h : x < 128
    · have HV := Lib.hid (seven_low h)
      have e1 : ((x : Int) < 128) = True := by simp; omega
      have e2 : (x : Int) % 256 = x := by omega
      have hown : OwnRow Form.u8 5 (w.alloc (.cells #[.int .u8 (x : Int)] 5)) w.heap.size noK (.slice (some ⟨w.heap.size, 0, none⟩) 1 1) [x] := own_one (Box.new' _ _ [.int .u8 (x : Int)] _ rfl) ⟨rfl, by omega⟩ (Nat.le_refl _)
      have HO := Lib.hid hown
      clear h hown ih
      go_enter Tryd.func36, Tryd.ntmps36
      go_wp2
      go_ret
      exact ⟨_, rfl, by rw [HV.out]; exact HO.out, (by repeat (first | fail | (with_reducible exact Below.refl _ _) | (with_reducible refine Below.al ?_ _) | (with_reducible refine Below.drN ?_ _) | (with_reducible refine Below.drew ?_) | (with_reducible refine Below.st ?_ ?_ _; rotate_left 1; (first | (dsimp only; omega) | omega | (simp; omega) | simp)) | exact Below.refl _ _))⟩
    · have HV := Lib.hid (seven_high h)
      have hq : x / 128 < x := by omega
      obtain ⟨q, hqe⟩ : ∃ q, x / 128 = q := ⟨_, rfl⟩
      have hI := fun W => ih (x / 128) hq W (by omega)
      rw [hqe] at hI HV hq
      have e1 : ((x : Int) < 128) = False := by simp; omega
      have e2 : (x : Int) / 128 = (q : Int) := by omega
      obtain ⟨y, hy⟩ : ∃ y, 128 + x % 128 = y := ⟨_, rfl⟩
      have e3 : 128 + (x : Int) % 128 = (y : Int) := by omega
      have e4 : (y : Int) % 256 = y := by omega
      have hsl := seven_9 (x := q) (by omega)
      rw [hy] at HV
      obtain ⟨i0, hi, hz0, hz1, hz2⟩ := info_parts info_byte
      clear ih h hq hqe
      go_enter Tryd.func36, Tryd.ntmps36
      go_wp2_with fail
      refine (hI _).mono ?_
      rintro e w1 ⟨v1, rfl, hown1, hb1⟩
      obtain ⟨a1, k1, b1, hv, _, hr1⟩ := hown1.row (G := anyB) (fun _ _ _ => trivial) (fun _ _ => trivial)
      subst hv
      have hy256 : y < 256 := by omega
      have hown : OwnRow Form.u8 5 (w1.alloc (.cells #[.int .u8 (y : Int)] 5)) w.heap.size noK (.slice (some ⟨w1.heap.size, 0, none⟩) 1 1) [y] := own_one (Box.new' _ _ [.int .u8 (y : Int)] _ rfl) ⟨rfl, hy256⟩ hb1.size
      clear hI hown1 hy
      go_wp2_with (at_builtin; go_must (refine wpList_append_flat rfl (.tmp 18) (.tmp 19) 27 rfl Form.u8 u8_plainly w.heap.size noK 5 i0 (.int .u8 0) 1 Tryd.underlying27 hi hz0 hz1 hz2 rfl (by decide) _ [y] rfl hown anyB a1 (seven q).length k1 b1 0 (seven q) rfl (hr1.alloc _) (by simp; omega) (by unfold maxLen; simp; omega) (by have := hb1.size; simp; omega) ?_))
      intro v' w' hown' hgrow hlies
      have hbn : Below w.heap.size w w' := Below.grown (hb1.alloc hb1.size _) hgrow (by have := hb1.size; simp; omega) (fun k hk => (hown.base_le k hk).1)
      have HO := Lib.hid hown'
      clear hown' hgrow hlies hown hr1
      go_wp2
      go_ret
      exact ⟨v', rfl, by rw [HV.out]; exact HO.out, hbn⟩
theorem refSumsOf_any (xs : List Nat) (a : Option Addr) (n k b o : Nat) (F : Nat → Prop) (w : World) (h : RowAt Form.u8 w F a n k b o xs) (hn : n ≤ 1000000) :
    Calls Tryd.prog 37 #[.slice a n k] w fun e w' => ∃ g, e = .returned (.slice (some ⟨g, 0, none⟩) 2 2) ∧ w.heap.size ≤ g ∧ RowAt Form.u8 w' (fun b => b = g) (some ⟨g, 0, none⟩) 2 2 g 0 [(prgSums xs).1, (prgSums xs).2] ∧ Below w.heap.size w w' := by
  have HL := Lib.hid h.len
  have hmx := h.max
  unfold maxLen at hmx
  obtain ⟨⟨r1, r2⟩, hR⟩ : ∃ R, refSums xs = R := ⟨_, rfl⟩
  have HS : Hid (prgSums xs = (r1 % 255, r2 % 255)) := Lib.hid (by rw [sums_same, hR])
  have HR : Hid ((xs.drop 0).foldl refStep (0, 0) = (r1, r2)) := Lib.hid hR
  clear hR
  go_enter Tryd.func37, Tryd.ntmps37
  go_wp2
  go_loopw [3, 4, 5] (fun x y i wr => ∃ (t s1 s2 : Nat), t ≤ n ∧ i = .int .i64 t ∧ x = .int .i64 s1 ∧ y = .int .i64 s2 ∧ s1 ≤ 255 * t ∧ s2 ≤ 255 * t ∧ Hid ((xs.drop t).foldl refStep (s1, s2) = (r1, r2)) ∧ wr = w.drewN 0) (fun _ _ i _ => n - (intOf i).toNat)
  case atStart => exact ⟨0, 0, 0, Nat.zero_le _, rfl, rfl, rfl, by decide, by decide, HR, rfl⟩
  case round =>
    obtain ⟨t, s1, s2, ht, rfl, rfl, rfl, h1, h2, hgo, rfl⟩ := hrel
    by_cases hlt : t < n
    · obtain rfl := h.ptr (by omega)
      obtain ⟨c0, hc⟩ := u8_cell h hlt
      obtain ⟨v, hv⟩ : ∃ v, bt xs t = v := ⟨_, rfl⟩
      rw [hv] at c0 hc
      obtain ⟨u1, hu1⟩ : ∃ u1, s1 + v = u1 := ⟨_, rfl⟩
      obtain ⟨u2, hu2⟩ : ∃ u2, s2 + u1 % 255 = u2 := ⟨_, rfl⟩
      have HGO : Hid ((xs.drop (t + 1)).foldl refStep (u1, u2) = (r1, r2)) := Lib.hid (by
        rw [← hgo.out, drop_bt (l := xs) (t := t) (by rw [HL.out]; exact hlt), List.foldl_cons, hv]
        unfold refStep
        dsimp only
        rw [hu1, hu2])
      have e1 : (s1 : Int) + (v : Int) = (u1 : Int) := by omega
      have e2 : (s2 : Int) + (u1 : Int) % 255 = (u2 : Int) := by omega
      have hb1 : u1 ≤ 255 * (t + 1) := by omega
      have hb2 : u2 ≤ 255 * (t + 1) := by omega
      clear hv hu1 hu2
      go_wp2
      go_roundw
      case rel => exact ⟨t + 1, u1, u2, by omega, by go_num, by first | rfl | rw [e1], by first | rfl | rw [e2], hb1, hb2, HGO, by trivial⟩
      case measure => simp [intOf]; omega
    · obtain rfl : n = t := by omega
      have hV : (s1, s2) = (r1, r2) := by rw [← hgo.out, List.drop_of_length_le (by rw [HL.out]; exact Nat.le_refl _)]; rfl
      simp only [Prod.mk.injEq] at hV
      obtain ⟨rfl, rfl⟩ := hV
      obtain ⟨q1, hq1⟩ : ∃ q1, s1 % 255 = q1 := ⟨_, rfl⟩
      obtain ⟨q2, hq2⟩ : ∃ q2, s2 % 255 = q2 := ⟨_, rfl⟩
      rw [hq1, hq2] at HS
      have e1 : (s1 : Int) % 255 = q1 := by omega
      have e2 : (s2 : Int) % 255 = q2 := by omega
      have e3 : (q1 : Int) % 256 = q1 := by omega
      have e4 : (q2 : Int) % 256 = q2 := by omega
      have hbs := u8_box (F := fun b => b = w.heap.size) (w := (w.drewN 0).alloc (.cells #[.int .u8 (q1 : Int), .int .u8 (q2 : Int)] 5)) (b := w.heap.size) (xs := [q1, q2]) (T := 5) (Box.new' _ _ [.int .u8 (q1 : Int), .int .u8 (q2 : Int)] _ rfl) (fun x hx => by simp at hx; omega) (by unfold maxLen; simp) rfl
      have HB := Lib.hid hbs
      clear hq1 hq2 hbs
      go_wp2
      go_ret
      exact ⟨w.heap.size, rfl, Nat.le_refl _, by rw [HS.out]; exact HB.out, (by repeat (first | fail | (with_reducible exact Below.refl _ _) | (with_reducible refine Below.al ?_ _) | (with_reducible refine Below.drN ?_ _) | (with_reducible refine Below.drew ?_) | (with_reducible refine Below.st ?_ ?_ _; rotate_left 1; (first | (dsimp only; omega) | omega | (simp; omega) | simp)) | exact Below.refl _ _))⟩
theorem refOctets_same (xs : List Nat) (a a' : Option Addr) (n k b o k' b' o' : Nat) (F F' : Nat → Prop) (w : World) (h : RowAt Form.u8 w F a n k b o xs) (h' : RowAt Form.u8 w F' a' n k' b' o' xs) :
    Calls Tryd.prog 13 #[.slice a n k, .slice a' n k'] w fun e w' => e = .returned (.bool true) ∧ Below w.heap.size w w' := by
  have hmx := h.max
  unfold maxLen at hmx
  have e1 : ((n : Int) != (n : Int)) = false := by simp
  go_enter Tryd.func13, Tryd.ntmps13
  go_wp2
  go_loopw [5] (fun i wr => ∃ (t nq : Nat), t ≤ n ∧ i = .int .i64 t ∧ wr = w.drewN nq) (fun i _ => n - (intOf i).toNat)
  case atStart => exact ⟨0, 0, Nat.zero_le _, rfl, rfl⟩
  case round =>
    obtain ⟨t, nq, htn, rfl, rfl⟩ := hrel
    by_cases hlt : t < n
    · obtain rfl := h.ptr (by omega)
      obtain rfl := h'.ptr (by omega)
      have c0 := (u8_cell h hlt).1
      have c1 := (u8_cell h' hlt).1
      obtain ⟨v, hv⟩ : ∃ v, bt xs t = v := ⟨_, rfl⟩
      rw [hv] at c0 c1
      have s0 : (0 : Int) ≤ (t : Int) := by omega
      have s1 : (t : Int) < (n : Int) := by omega
      have e2 : ((v : Int) != (v : Int)) = false := by simp
      clear hv
      go_wp2
      go_quiet (fail)
      go_wp2
      go_roundw
      case rel => exact ⟨t + 1, _, by omega, by go_num, (by first | rfl | exact World.drewN_drewN _ _ _)⟩
      case measure => simp [intOf]; omega
    · obtain rfl : n = t := by omega
      go_wp2
      go_ret
      exact ⟨rfl, (by repeat (first | fail | (with_reducible exact Below.refl _ _) | (with_reducible refine Below.al ?_ _) | (with_reducible refine Below.drN ?_ _) | (with_reducible refine Below.drew ?_) | (with_reducible refine Below.st ?_ ?_ _; rotate_left 1; (first | (dsimp only; omega) | omega | (simp; omega) | simp)) | exact Below.refl _ _))⟩
end Go.Proofs.YtgknjikjjklaiaaDoor
