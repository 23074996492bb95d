/- Contracts of package wire: the reader's number, zag. -/
import Derived.Test.YtgknjikjjklaiaaDoorWire1
import Derived.Test.YtgknjikjjklaiaaDoorBaseR
import Derived.BigQuiet
import Derived.Deep.CutBlock
import Derived.Deep.DeepCutAuto
import Derived.Laws.Bits64
import Derived.IntWalk
set_option linter.unusedVariables false
set_option linter.unusedSimpArgs false
set_option linter.unusedSectionVars false
set_option maxRecDepth 100000
namespace Gal
open Go Go.RowKit
theorem and_127 {v : Nat} (h : v < 256) : bits .and .u8 (v : Int) 127 = ((v % 128 : Nat) : Int) := by
  have hall : ∀ a : Fin 256, bits .and .u8 (a.val : Int) 127 = ((a.val % 128 : Nat) : Int) := by decide +kernel
  exact hall ⟨v, h⟩
theorem i64_or_nat (a b : Nat) (ha : a < 9223372036854775808) (hb : b < 9223372036854775808) : bits .or .i64 (a : Int) (b : Int) = ((a ||| b : Nat) : Int) := by
  have hx : a ||| b < 2 ^ 63 := Nat.or_lt_two_pow (by omega) (by omega)
  have h64 : ∀ c : Nat, c < 9223372036854775808 → (BitVec.ofInt 64 (c : Int)).toNat = c := fun c hc => by
    rw [BitVec.ofInt_natCast, BitVec.toNat_ofNat]; exact Nat.mod_eq_of_lt (by omega)
  show IntKind.i64.wrap ((BitVec.ofInt 64 (a : Int) ||| BitVec.ofInt 64 (b : Int)).toNat : Int) = _
  rw [BitVec.toNat_or, h64 a ha, h64 b hb]
  exact IntWalk.i64_in _ (by omega)
/-- what is read so far, and seven digits more -/
theorem or_seven {x d i : Nat} (hx : x < 2 ^ (7 * i)) (hd : d < 128) (hi : i ≤ 8) : bits .or .i64 (x : Int) ((d * 2 ^ (7 * i) : Nat) : Int) = ((x + d * 2 ^ (7 * i) : Nat) : Int) := by
  have h1 : (2 : Nat) ^ (7 * i) ≤ 2 ^ 56 := Nat.pow_le_pow_right (by omega) (by omega)
  have h2 : d * 2 ^ (7 * i) ≤ 127 * 2 ^ 56 := Nat.mul_le_mul (by omega) h1
  rw [i64_or_nat x (d * 2 ^ (7 * i)) (by omega) (by omega)]
  have h3 := or_add (d := d) hx
  rw [Nat.shiftLeft_eq] at h3
  rw [h3]
theorem or_seven' {x d i : Nat} (hx : x < 2 ^ (7 * i)) (hd : d < 128) (hi : i ≤ 8) : bits .or .i64 (x : Int) (wrap64 ((d : Int) * 2 ^ (7 * i))) = ((x + d * 2 ^ (7 * i) : Nat) : Int) := by
  have h1 : (2 : Nat) ^ (7 * i) ≤ 2 ^ 56 := Nat.pow_le_pow_right (by omega) (by omega)
  have h2 : d * 2 ^ (7 * i) ≤ 127 * 2 ^ 56 := Nat.mul_le_mul (by omega) h1
  have h3 : wrap64 ((d : Int) * 2 ^ (7 * i)) = ((d * 2 ^ (7 * i) : Nat) : Int) := by
    rw [show (d : Int) * 2 ^ (7 * i) = ((d * 2 ^ (7 * i) : Nat) : Int) by push_cast; rfl]
    unfold wrap64
    omega
  rw [h3]
  exact or_seven hx hd hi
theorem i64_and_one (a : Nat) (ha : a < 9223372036854775808) : bits .and .i64 (a : Int) 1 = ((a % 2 : Nat) : Int) := by
  have h64 : ∀ c : Nat, c < 9223372036854775808 → (BitVec.ofInt 64 (c : Int)).toNat = c := fun c hc => by
    rw [BitVec.ofInt_natCast, BitVec.toNat_ofNat]; exact Nat.mod_eq_of_lt (by omega)
  show IntKind.i64.wrap ((BitVec.ofInt 64 (a : Int) &&& BitVec.ofInt 64 1).toNat : Int) = _
  rw [BitVec.toNat_and, h64 a ha, show (BitVec.ofInt 64 1).toNat = 1 by decide, Nat.and_one_is_mod]
  exact IntWalk.i64_in _ (by omega)
theorem seven_pow (i : Nat) : 2 ^ (7 * (i + 1)) = 128 * 2 ^ (7 * i) := by rw [show 7 * (i + 1) = 7 * i + 7 by omega, Nat.pow_add]; omega
end Gal
namespace Go.Proofs.YtgknjikjjklaiaaDoor
open Go.RowKit Gal
set_option maxHeartbeats 4000000
/-- the reader: where it stands, and has all gone well? -/
abbrev RdAt (w : World) (R : Nat) (a : Option Addr) (n k at0 : Nat) (ok : Bool) : Prop := Box w R [.slice a n k, .int .i64 (at0 : Int), .bool ok] 91
def RdEnd (bs : List Nat) (at0 at1 : Nat) (ok ok1 : Bool) (v : Nat) : Prop := (sevAt bs at0 = some (v, at1) ∧ ok1 = ok) ∨ (sevAt bs at0 = none ∧ ok1 = false)
theorem rdNumber_any (bs : List Nat) (a : Option Addr) (n k b o R at0 : Nat) (ok : Bool) (F : Nat → Prop) (w : World) (h : RowAt Form.u8 w F a n k b o bs) (hR : RdAt w R a n k at0 ok) (hne : 0 < n → b ≠ R) (hat : at0 ≤ n) :
    Calls Tryd.prog 42 #[.pointer (some ⟨R, 0, none⟩)] w fun e w' => ∃ (v at1 : Nat) (ok1 : Bool), e = .returned (.int .i64 (v : Int)) ∧ RdAt w' R a n k at1 ok1 ∧ Far (fun x => x = R) w w' ∧ at0 ≤ at1 ∧ at1 ≤ n ∧ v < 2 ^ 63 ∧ RdEnd bs at0 at1 ok ok1 v := by
  have HL := Lib.hid h.len
  have hmx := h.max
  unfold maxLen at hmx
  obtain ⟨S, hS⟩ : ∃ S, sevAt bs at0 = S := ⟨_, rfl⟩
  have HS := Lib.hid hS
  have HS0 : Hid (sevGo bs at0 (9 - 0) 0 0 = S) := Lib.hid hS
  clear hS
  go_enter Tryd.func42, Tryd.ntmps42
  go_wp2
  go_loopw [3, 6] (fun u i wr => ∃ (t x : Nat), t ≤ 9 ∧ i = .int .i64 t ∧ u = .int .i64 x ∧ at0 + t ≤ n ∧ x < 2 ^ (7 * t) ∧ Hid (sevGo bs at0 (9 - t) t x = S) ∧ RdAt wr R a n k (at0 + t) ok ∧ Far (fun y => y = R) w wr) (fun _ i _ => 9 - (intOf i).toNat)
  case atStart => exact ⟨0, 0, by decide, rfl, rfl, hat, by decide, HS0, hR, Far.refl _ _⟩
  case round =>
    clear hR
    obtain ⟨t, x, ht, rfl, rfl, hatn, hx, hgo, hR, hfr⟩ := hrel
    obtain ⟨p, hp⟩ : ∃ p, at0 + t = p := ⟨_, rfl⟩
    rw [hp] at hR hatn
    have HP := Lib.hid hp
    have c0 := hR.cell 0
    have c1 := hR.cell 1
    have c2 := hR.cell 2
    by_cases ht9 : t < 9
    · by_cases hend : p = n
      · have e1 : ((p : Int) ≥ (n : Int)) = True := by simp; omega
        have hnone : S = none := by
          rw [← hgo.out, show 9 - t = (8 - t) + 1 by omega, sevGo, hp, List.getElem?_eq_none (by rw [HL.out]; omega)]
        have HN := Lib.hid hnone
        clear hend hnone hp
        go_wp2
        go_quiet (fail)
        obtain ⟨wq, hwq⟩ : ∃ wq, wr.drewN nq = wq := ⟨_, rfl⟩
        have hRq : RdAt wq R a n k p ok := by rw [← hwq]; exact hR.drewN nq
        have hfq : Far (fun y => y = R) w wq := by rw [← hwq]; exact hfr.drN nq
        rw [hwq]
        clear hwq hR hfr c0 c1 c2
        have f2 := hRq.thawed 2
        have d2 := hRq.cell 2
        have hfin : RdAt (wq.setCell ⟨R, 2, none⟩ (.bool false)) R a n k p false := hRq.set 2 (.bool false)
        have hff : Far (fun y => y = R) w (wq.setCell ⟨R, 2, none⟩ (.bool false)) := hfq.st (fun _ => rfl) _
        have HFIN := Lib.hid hfin
        have HFF := Lib.hid hff
        clear hfin hff
        go_wp2
        go_ret
        exact ⟨0, p, false, rfl, HFIN.out, HFF.out, by have := HP.out; omega, by omega, by decide, Or.inr ⟨by rw [HS.out, HN.out], rfl⟩⟩
      · obtain ⟨c3, hd⟩ := (u8_cell ((h.any (G := fun c => c = b) u8_plainly (fun _ => rfl)).farS hfr (fun c hc _ hh => hne (by omega) (Eq.trans (Eq.symm hc) hh))) (i := p) (by omega))
        obtain ⟨d, hde⟩ : ∃ d, bt bs p = d := ⟨_, rfl⟩
        rw [hde] at c3 hd
        have hget : bs[p]? = some d := by rw [← hde]; exact bt_get (by rw [HL.out]; omega)
        have e1 : ((p : Int) ≥ (n : Int)) = False := by simp; omega
        have hand := and_127 hd
        obtain ⟨y, hy⟩ : ∃ y, d % 128 = y := ⟨_, rfl⟩
        rw [hy] at hand
        have hyb : y < 128 := by omega
        have hor := or_seven' hx hyb (by omega)
        obtain ⟨x2, hx2⟩ : ∃ x2, x + y * 2 ^ (7 * t) = x2 := ⟨_, rfl⟩
        rw [hx2] at hor
        have hxb : x2 < 2 ^ (7 * (t + 1)) := by
          rw [seven_pow, ← hx2]
          have := Nat.mul_le_mul_right (2 ^ (7 * t)) (show y ≤ 127 by omega)
          omega
        have HOR := Lib.hid hor
        have hstep : sevGo bs at0 (9 - t) t x = if d < 128 then (if d = 0 ∧ 0 < t then none else some (x + d * 2 ^ (7 * t), p + 1)) else sevGo bs at0 (9 - (t + 1)) (t + 1) x2 := by
          rw [show 9 - t = (9 - (t + 1)) + 1 by omega, sevGo, hp, hget]
          dsimp only
          rw [hy, hx2]
        rw [hgo.out] at hstep
        have HSTEP := Lib.hid hstep
        have hx63 : x2 < 2 ^ 63 := Nat.lt_of_lt_of_le hxb (Nat.pow_le_pow_right (by omega) (by omega))
        have HX63 := Lib.hid hx63
        have HXB := Lib.hid hxb
        have HY := Lib.hid hy
        have HX2 := Lib.hid hx2
        clear hor hstep hx63 hxb hx2
        obtain rfl := h.ptr (by omega)
        have p0 : (0 : Int) ≤ (p : Int) := by omega
        have p1 : (p : Int) < (n : Int) := by omega
        have e9 : ((t : Int) < 9) = True := by simp; omega
        clear hde hend hp
        go_wp2
        go_quiet (fail)
        obtain ⟨wp, hwp⟩ : ∃ wp, wr.drewN nq = wp := ⟨_, rfl⟩
        have hRp : RdAt wp R (some ⟨b, o, none⟩) n k p ok := by rw [← hwp]; exact hR.drewN nq
        have hfp : Far (fun y => y = R) w wp := by rw [← hwp]; exact hfr.drN nq
        have c3p : wp.cell? ⟨b, o + p, none⟩ = some (.int .u8 (d : Int)) := by rw [← hwp]; exact c3
        rw [hwp]
        clear hwp hR hfr c0 c1 c2 c3
        have c0 := hRp.cell 0
        have c1 := hRp.cell 1
        go_wp2
        go_quiet (fail)
        obtain ⟨wq, hwq⟩ : ∃ wq, wp.drewN nq = wq := ⟨_, rfl⟩
        have hRq : RdAt wq R (some ⟨b, o, none⟩) n k p ok := by rw [← hwq]; exact hRp.drewN nq
        have hfq : Far (fun y => y = R) w wq := by rw [← hwq]; exact hfp.drN nq
        have f1 := hRq.thawed 1
        have d1 := hRq.cell 1
        have hbx : RdAt (wq.setCell ⟨R, 1, none⟩ (.int .i64 ((p + 1 : Nat) : Int))) R (some ⟨b, o, none⟩) n k (p + 1) ok := hRq.set 1 (.int .i64 ((p + 1 : Nat) : Int))
        rw [show ((p + 1 : Nat) : Int) = (p : Int) + 1 by omega] at hbx
        have hff : Far (fun y => y = R) w (wq.setCell ⟨R, 1, none⟩ (.int .i64 ((p : Int) + 1))) := hfq.st (fun _ => rfl) _
        obtain ⟨ws, hws⟩ : ∃ ws, wq.setCell ⟨R, 1, none⟩ (.int .i64 ((p : Int) + 1)) = ws := ⟨_, rfl⟩
        rw [hws] at hbx hff
        have HWS := Lib.hid hws
        rw [hwq]
        clear hwq hws hRp hfp c0 c1 c3p hRq hfq
        go_upto_region 8 with (fail)
        rw [HWS.out]
        go_upto_region 9 with (fail)
        rw [HOR.out]
        by_cases hd128 : d < 128
        · have e2 : ((d : Int) < 128) = True := by simp; omega
          have b0 := hbx.cell 2
          have b1 := hbx.thawed 2
          have hyd : y = d := by have := HY.out; omega
          by_cases hz : d = 0 ∧ 0 < t
          · have hn : S = none := by rw [HSTEP.out, if_pos hd128, if_pos hz]
            have HN := Lib.hid hn
            obtain ⟨hz1, hz2⟩ := hz
            have e3 : ((d : Int) > 0) = False := by simp; omega
            have e4 : ((t : Int) == 0) = false := by simp; omega
            have hfin : RdAt (ws.setCell ⟨R, 2, none⟩ (.bool (false))) R (some ⟨b, o, none⟩) n k (p + 1) (false) := hbx.set 2 (.bool (false))
            have hff2 : Far (fun y => y = R) w (ws.setCell ⟨R, 2, none⟩ (.bool (false))) := hff.st (fun _ => rfl) _
            have HFIN := Lib.hid hfin
            have HFF := Lib.hid hff2
            clear hfin hff2 hbx hff
            cases ok with
            | false =>
              go_wp2
              go_ret
              exact ⟨x2, p + 1, _, rfl, HFIN.out, HFF.out, by have := HP.out; omega, by omega, HX63.out, Or.inr ⟨by rw [HS.out, HN.out], rfl⟩⟩
            | true =>
              go_wp2
              go_ret
              exact ⟨x2, p + 1, _, rfl, HFIN.out, HFF.out, by have := HP.out; omega, by omega, HX63.out, Or.inr ⟨by rw [HS.out, HN.out], rfl⟩⟩
          · have hn : S = some (x2, p + 1) := by rw [HSTEP.out, if_pos hd128, if_neg hz, ← hyd, HX2.out]
            have HN := Lib.hid hn
            by_cases hz1 : d = 0
            · have e3 : ((d : Int) > 0) = False := by simp; omega
              have e4 : ((t : Int) == 0) = true := by simp; omega
              have hfin : RdAt (ws.setCell ⟨R, 2, none⟩ (.bool (ok))) R (some ⟨b, o, none⟩) n k (p + 1) (ok) := hbx.set 2 (.bool (ok))
              have hff2 : Far (fun y => y = R) w (ws.setCell ⟨R, 2, none⟩ (.bool (ok))) := hff.st (fun _ => rfl) _
              have HFIN := Lib.hid hfin
              have HFF := Lib.hid hff2
              clear hfin hff2 hbx hff
              cases ok with
              | false =>
                go_wp2
                go_ret
                exact ⟨x2, p + 1, _, rfl, HFIN.out, HFF.out, by have := HP.out; omega, by omega, HX63.out, Or.inl ⟨by rw [HS.out, HN.out], rfl⟩⟩
              | true =>
                go_wp2
                go_ret
                exact ⟨x2, p + 1, _, rfl, HFIN.out, HFF.out, by have := HP.out; omega, by omega, HX63.out, Or.inl ⟨by rw [HS.out, HN.out], rfl⟩⟩
            · have e3 : ((d : Int) > 0) = True := by simp; omega
              have hfin : RdAt (ws.setCell ⟨R, 2, none⟩ (.bool (ok))) R (some ⟨b, o, none⟩) n k (p + 1) (ok) := hbx.set 2 (.bool (ok))
              have hff2 : Far (fun y => y = R) w (ws.setCell ⟨R, 2, none⟩ (.bool (ok))) := hff.st (fun _ => rfl) _
              have HFIN := Lib.hid hfin
              have HFF := Lib.hid hff2
              clear hfin hff2 hbx hff
              cases ok with
              | false =>
                go_wp2
                go_ret
                exact ⟨x2, p + 1, _, rfl, HFIN.out, HFF.out, by have := HP.out; omega, by omega, HX63.out, Or.inl ⟨by rw [HS.out, HN.out], rfl⟩⟩
              | true =>
                go_wp2
                go_ret
                exact ⟨x2, p + 1, _, rfl, HFIN.out, HFF.out, by have := HP.out; omega, by omega, HX63.out, Or.inl ⟨by rw [HS.out, HN.out], rfl⟩⟩
        · have e2 : ((d : Int) < 128) = False := by simp; omega
          have HN : Hid (sevGo bs at0 (9 - (t + 1)) (t + 1) x2 = S) := Lib.hid (by rw [HSTEP.out, if_neg hd128])
          clear hd128
          go_wp2
          go_roundw
          case rel => exact ⟨t + 1, x2, by omega, by go_num, rfl, by have := HP.out; omega, HXB.out, HN, by have := HP.out; rw [show at0 + (t + 1) = p + 1 by omega]; exact hbx, hff⟩
          case measure => simp [intOf]; omega
    · obtain rfl : t = 9 := by omega
      have hnone : S = none := by rw [← hgo.out]; rfl
      have HN := Lib.hid hnone
      obtain ⟨wq, hwq⟩ : ∃ wq, wq = wr := ⟨_, rfl⟩
      subst hwq
      have hRq := hR
      have hfq := hfr
      clear hR hfr c0 c1 c2 hp
      have f2 := hRq.thawed 2
      have d2 := hRq.cell 2
      have hfin : RdAt (wq.setCell ⟨R, 2, none⟩ (.bool false)) R a n k p false := hRq.set 2 (.bool false)
      have hff : Far (fun y => y = R) w (wq.setCell ⟨R, 2, none⟩ (.bool false)) := hfq.st (fun _ => rfl) _
      have HFIN := Lib.hid hfin
      have HFF := Lib.hid hff
      clear hfin hff
      go_wp2
      go_ret
      exact ⟨0, p, false, rfl, HFIN.out, HFF.out, by have := HP.out; omega, by omega, by decide, Or.inr ⟨by rw [HS.out, HN.out], rfl⟩⟩
theorem wireZag_any (n : Nat) (w : World) (hn : n < 2 ^ 63) : Calls Tryd.prog 43 #[.int .i64 (n : Int)] w fun e w' => e = .returned (.int .i64 (zagOf n)) ∧ w = w' := by
  have hand := i64_and_one n (by omega)
  obtain ⟨q, hq⟩ : ∃ q, n / 2 = q := ⟨_, rfl⟩
  have e2 : (n : Int) / 2 = (q : Int) := by omega
  by_cases h : n % 2 = 1
  · have HV : Hid (zagOf n = -1 - (q : Int)) := Lib.hid (by unfold zagOf; rw [if_pos h, hq]; omega)
    have e1 := i64_not' (q : Int) (by omega) (by omega)
    rw [h] at hand
    clear h hq
    go_enter Tryd.func43, Tryd.ntmps43
    go_wp2
    go_ret
    exact ⟨by rw [HV.out]; rfl, rfl⟩
  · have h0 : n % 2 = 0 := by omega
    have HV : Hid (zagOf n = (q : Int)) := Lib.hid (by unfold zagOf; rw [if_neg h, hq])
    have e1 := i64_xor_zero (q : Int) (by omega) (by omega)
    rw [h0] at hand
    clear h h0 hq
    go_enter Tryd.func43, Tryd.ntmps43
    go_wp2
    go_ret
    exact ⟨by rw [HV.out]; rfl, rfl⟩
end Go.Proofs.YtgknjikjjklaiaaDoor
