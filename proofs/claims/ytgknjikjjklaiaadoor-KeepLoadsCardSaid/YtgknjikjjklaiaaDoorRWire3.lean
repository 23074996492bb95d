/- The reference: SevenAt. -/
import Derived.Test.YtgknjikjjklaiaaDoorWire3
import Derived.Test.YtgknjikjjklaiaaDoorPWire4
import Derived.Test.YtgknjikjjklaiaaDoorRWire2
import Derived.BigQuiet
set_option linter.unusedVariables false
set_option linter.unusedSimpArgs false
set_option linter.unusedSectionVars false
set_option maxRecDepth 100000
namespace Gal
open Go Go.RowKit
/-- what SevenAt answers, as two numbers -/
def SevIs (bs : List Nat) (at0 : Nat) (x y : Int) : Prop := (∃ v at1 : Nat, sevAt bs at0 = some (v, at1) ∧ x = v ∧ y = at1) ∨ (sevAt bs at0 = none ∧ x = 0 ∧ y = -1)
theorem sum_seven {x d i : Nat} (hx : x < 2 ^ (7 * i)) (hd : d < 128) (hi : i ≤ 8) : wrap64 ((x : Int) + wrap64 ((d : Int) * 2 ^ (7 * i))) = ((x + d * 2 ^ (7 * i) : Nat) : Int) := by
  have h1 : (2 : Nat) ^ (7 * i) ≤ 2 ^ 56 := Nat.pow_le_pow_right (by omega) (by omega)
  have h2 : d * 2 ^ (7 * i) ≤ 127 * 2 ^ 56 := Nat.mul_le_mul (by omega) h1
  rw [show (d : Int) * 2 ^ (7 * i) = ((d * 2 ^ (7 * i) : Nat) : Int) by push_cast; rfl]
  generalize d * 2 ^ (7 * i) = z at h2 ⊢
  unfold wrap64
  omega
end Gal
namespace Go.Proofs.YtgknjikjjklaiaaDoor
open Go.RowKit Gal
set_option maxHeartbeats 4000000
theorem refSevenAt_any (bs : List Nat) (a : Option Addr) (n k b o at0 : Nat) (F : Nat → Prop) (w : World) (h : RowAt Form.u8 w F a n k b o bs) (hat : at0 ≤ n) :
    Calls Tryd.prog 44 #[.slice a n k, .int .i64 (at0 : Int)] w fun e w' => ∃ x y : Int, e = .returned (.tuple #[.int .i64 x, .int .i64 y]) ∧ SevIs bs at0 x y ∧ Below w.heap.size w w' := by
  have HL := Lib.hid h.len
  have hmx := h.max
  unfold maxLen at hmx
  obtain ⟨S, hS⟩ : ∃ S, sevAt bs at0 = S := ⟨_, rfl⟩
  have HS := Lib.hid hS
  have HS0 : Hid (sevGo bs at0 (9 - 0) 0 0 = S) := Lib.hid hS
  clear hS
  go_enter Tryd.func44, Tryd.ntmps44
  go_wp2
  go_loopw [6, 7] (fun u i wr => ∃ (t x nq : Nat), t ≤ 9 ∧ i = .int .i64 t ∧ u = .int .i64 x ∧ at0 + t ≤ n ∧ x < 2 ^ (7 * t) ∧ Hid (sevGo bs at0 (9 - t) t x = S) ∧ wr = w.drewN nq) (fun _ i _ => 9 - (intOf i).toNat)
  case atStart => exact ⟨0, 0, 0, by decide, rfl, rfl, hat, by decide, HS0, rfl⟩
  case round =>
    obtain ⟨t, x, nq, ht, rfl, rfl, hatn, hx, hgo, rfl⟩ := hrel
    obtain ⟨p, hp⟩ : ∃ p, at0 + t = p := ⟨_, rfl⟩
    rw [hp] at hatn
    have HP := Lib.hid hp
    have ep : (at0 : Int) + (t : Int) = (p : Int) := by omega
    by_cases ht9 : t < 9
    · by_cases hend : p = n
      · have e1 : ((p : Int) ≥ (n : Int)) = True := by simp; omega
        have hnone : S = none := by
          rw [← hgo.out, show 9 - t = (8 - t) + 1 by omega, sevGo, hp, List.getElem?_eq_none (by rw [HL.out]; omega)]
        have HN := Lib.hid hnone
        clear hend hnone hp hx
        go_wp2
        refine bodyPost_ret (v := .tuple #[.int .i64 (0), .int .i64 (-1)]) (by simp [results, Tryd.results44, go_sem]) rfl ⟨0, -1, rfl, Or.inr ⟨by rw [HS.out, HN.out], rfl, rfl⟩, (by repeat (first | fail | (with_reducible exact Below.refl _ _) | (with_reducible refine Below.al ?_ _) | (with_reducible refine Below.drN ?_ _) | (with_reducible refine Below.drew ?_) | (with_reducible refine Below.st ?_ ?_ _; rotate_left 1; (first | (dsimp only; omega) | omega | (simp; omega) | simp)) | exact Below.refl _ _))⟩
      · obtain ⟨c3, hd⟩ := u8_cell h (i := p) (by omega)
        obtain ⟨d, hde⟩ : ∃ d, bt bs p = d := ⟨_, rfl⟩
        rw [hde] at c3 hd
        have hget : bs[p]? = some d := by rw [← hde]; exact bt_get (by rw [HL.out]; omega)
        have e1 : ((p : Int) ≥ (n : Int)) = False := by simp; omega
        obtain ⟨y, hy⟩ : ∃ y, d % 128 = y := ⟨_, rfl⟩
        have ey : (d : Int) % 128 = (y : Int) := by omega
        have hyb : y < 128 := by omega
        have hor := sum_seven hx hyb (by omega)
        obtain ⟨x2, hx2⟩ : ∃ x2, x + y * 2 ^ (7 * t) = x2 := ⟨_, rfl⟩
        rw [hx2] at hor
        have hxb : x2 < 2 ^ (7 * (t + 1)) := by
          rw [seven_pow, ← hx2]
          have := Nat.mul_le_mul_right (2 ^ (7 * t)) (show y ≤ 127 by omega)
          omega
        have HOR := Lib.hid hor
        have hstep : sevGo bs at0 (9 - t) t x = if d < 128 then (if d = 0 ∧ 0 < t then none else some (x + d * 2 ^ (7 * t), p + 1)) else sevGo bs at0 (9 - (t + 1)) (t + 1) x2 := by
          rw [show 9 - t = (9 - (t + 1)) + 1 by omega, sevGo, hp, hget]
          dsimp only
          rw [hy, hx2]
        rw [hgo.out] at hstep
        have HSTEP := Lib.hid hstep
        have hx63 : x2 < 2 ^ 63 := Nat.lt_of_lt_of_le hxb (Nat.pow_le_pow_right (by omega) (by omega))
        have HX63 := Lib.hid hx63
        have HXB := Lib.hid hxb
        have HY := Lib.hid hy
        have HX2 := Lib.hid hx2
        clear hor hstep hx63 hxb hx2 hx
        obtain rfl := h.ptr (by omega)
        have p0 : (0 : Int) ≤ (p : Int) := by omega
        have p1 : (p : Int) < (n : Int) := by omega
        have e9 : ((t : Int) < 9) = True := by simp; omega
        have e7 : ((7 * t : Nat) : Int) = 7 * (t : Int) := by omega
        clear hde hend hp
        go_upto_region 9 with (fail)
        rw [HOR.out]
        by_cases hd128 : d < 128
        · have e2 : ((d : Int) < 128) = True := by simp; omega
          have hyd : y = d := by have := HY.out; omega
          by_cases hz : d = 0 ∧ 0 < t
          · have hn : S = none := by rw [HSTEP.out, if_pos hd128, if_pos hz]
            have HN := Lib.hid hn
            obtain ⟨hz1, hz2⟩ := hz
            have e3 : ((d : Int) == 0) = true := by simp; omega
            have e4 : ((t : Int) > 0) = True := by simp; omega
            go_wp2
            refine bodyPost_ret (v := .tuple #[.int .i64 (0), .int .i64 (-1)]) (by simp [results, Tryd.results44, go_sem]) rfl ⟨0, -1, rfl, Or.inr ⟨by rw [HS.out, HN.out], rfl, rfl⟩, (by repeat (first | fail | (with_reducible exact Below.refl _ _) | (with_reducible refine Below.al ?_ _) | (with_reducible refine Below.drN ?_ _) | (with_reducible refine Below.drew ?_) | (with_reducible refine Below.st ?_ ?_ _; rotate_left 1; (first | (dsimp only; omega) | omega | (simp; omega) | simp)) | exact Below.refl _ _))⟩
          · have hn : S = some (x2, p + 1) := by rw [HSTEP.out, if_pos hd128, if_neg hz, ← hyd, HX2.out]
            have HN := Lib.hid hn
            have hx6 := HX63.out
            by_cases hz1 : d = 0
            · have e3 : ((d : Int) == 0) = true := by simp; omega
              have e4 : ((t : Int) > 0) = False := by simp; omega
              go_wp2
              refine bodyPost_ret (v := .tuple #[.int .i64 (x2), .int .i64 ((p : Int) + 1)]) (by simp [results, Tryd.results44, go_sem]) rfl ⟨x2, (p : Int) + 1, rfl, Or.inl ⟨x2, p + 1, by rw [HS.out, HN.out], rfl, by omega⟩, (by repeat (first | fail | (with_reducible exact Below.refl _ _) | (with_reducible refine Below.al ?_ _) | (with_reducible refine Below.drN ?_ _) | (with_reducible refine Below.drew ?_) | (with_reducible refine Below.st ?_ ?_ _; rotate_left 1; (first | (dsimp only; omega) | omega | (simp; omega) | simp)) | exact Below.refl _ _))⟩
            · have e3 : ((d : Int) == 0) = false := by simp; omega
              go_wp2
              refine bodyPost_ret (v := .tuple #[.int .i64 (x2), .int .i64 ((p : Int) + 1)]) (by simp [results, Tryd.results44, go_sem]) rfl ⟨x2, (p : Int) + 1, rfl, Or.inl ⟨x2, p + 1, by rw [HS.out, HN.out], rfl, by omega⟩, (by repeat (first | fail | (with_reducible exact Below.refl _ _) | (with_reducible refine Below.al ?_ _) | (with_reducible refine Below.drN ?_ _) | (with_reducible refine Below.drew ?_) | (with_reducible refine Below.st ?_ ?_ _; rotate_left 1; (first | (dsimp only; omega) | omega | (simp; omega) | simp)) | exact Below.refl _ _))⟩
        · have e2 : ((d : Int) < 128) = False := by simp; omega
          have HN : Hid (sevGo bs at0 (9 - (t + 1)) (t + 1) x2 = S) := Lib.hid (by rw [HSTEP.out, if_neg hd128])
          clear hd128
          go_wp2
          go_roundw
          case rel => exact ⟨t + 1, x2, nq, by omega, by go_num, rfl, by have := HP.out; omega, HXB.out, HN, rfl⟩
          case measure => simp [intOf]; omega
    · obtain rfl : t = 9 := by omega
      have hnone : S = none := by rw [← hgo.out]; rfl
      have HN := Lib.hid hnone
      clear hx
      go_wp2
      refine bodyPost_ret (v := .tuple #[.int .i64 (0), .int .i64 (-1)]) (by simp [results, Tryd.results44, go_sem]) rfl ⟨0, -1, rfl, Or.inr ⟨by rw [HS.out, HN.out], rfl, rfl⟩, (by repeat (first | fail | (with_reducible exact Below.refl _ _) | (with_reducible refine Below.al ?_ _) | (with_reducible refine Below.drN ?_ _) | (with_reducible refine Below.drew ?_) | (with_reducible refine Below.st ?_ ?_ _; rotate_left 1; (first | (dsimp only; omega) | omega | (simp; omega) | simp)) | exact Below.refl _ _))⟩
end Go.Proofs.YtgknjikjjklaiaaDoor
