/- Contracts of package keep: the eye's number. -/
import Derived.Test.YtgknjikjjklaiaaDoorKeep1
import Derived.Test.YtgknjikjjklaiaaDoorPKeep2
import Derived.Test.YtgknjikjjklaiaaDoorWire3
set_option linter.unusedVariables false
set_option linter.unusedSimpArgs false
set_option linter.unusedSectionVars false
set_option maxRecDepth 100000
namespace Go.Proofs.YtgknjikjjklaiaaDoor
open Go.RowKit Gal
set_option maxHeartbeats 4000000
/-- what an eye bears: nothing, or that it met something that it could not read -/
def eyeErr (ev : Value) (ok : Bool) : Value := if ok then .nilIface else ev
/-- an eye that stands at place p of the bytes -/
abbrev EyeAt (w : World) (E b o L K p : Nat) (er : Value) : Prop := Box w E [.slice (some ⟨b, o + p, none⟩) (L - p) (K - p), er] 111
theorem eyeNumber_ok (cs : List Nat) (b o L K E at0 : Nat) (pv : Value) (F : Nat → Prop) (w : World) (h : RowAt Form.u8 w F (some ⟨b, o, none⟩) L K b o cs) (hE : EyeAt w E b o L K at0 .nilIface) (hne : b ≠ E) (hat : at0 ≤ L) (hK : L + 2 ≤ K) (hE0 : E ≠ 0) (hbl : b < w.heap.size)
    (hg : w.cell? ⟨0, 0, none⟩ = some (.iface 169 pv)) :
    Calls Tryd.prog 52 #[.pointer (some ⟨E, 0, none⟩)] w fun e w' => ∃ (v at1 : Nat) (ok1 : Bool), e = .returned (.int .i64 (v : Int)) ∧ EyeAt w' E b o L K at1 (eyeErr (.iface 169 pv) ok1) ∧ Far (fun y => y = E) w w' ∧ at0 ≤ at1 ∧ at1 ≤ L ∧ EyeN cs at0 at1 true ok1 v := by
  have HL := Lib.hid h.len
  have hmx := h.maxc
  unfold maxLen at hmx
  have hw0 := World.block_lt_of_cell? _ _ hg
  have HGV : Hid (∀ W, Far (fun y => y = E) w W → W.cell? ⟨0, 0, none⟩ = some (.iface 169 pv)) := Lib.hid (fun W hf => (World.cell?_of_block (a := ⟨0, 0, none⟩) (hf.block 0 hw0 (fun e => hE0 e.symm))).trans hg)
  have HU : Hid (∀ W, Far (fun y => y = E) w W → ∀ i, i < L → W.cell? ⟨b, o + i, none⟩ = some (.int .u8 (bt cs i : Int)) ∧ bt cs i < 256) := Lib.hid (fun W hf i hi => by
    have h1 := u8_cell h hi
    exact ⟨(World.cell?_of_block (a := ⟨b, o + i, none⟩) (hf.block b hbl (fun e => hne e))).trans h1.1, h1.2⟩)
  obtain ⟨S, hS⟩ : ∃ S, sevAt cs at0 = S := ⟨_, rfl⟩
  have HS := Lib.hid hS
  have HS0 : Hid (sevGo cs at0 (9 - 0) 0 0 = S) := Lib.hid hS
  clear hS hg h
  go_enter Tryd.func52, Tryd.ntmps52
  go_wp2
  go_loopw [3, 4] (fun u i wr => ∃ (t x : Nat), t ≤ 9 ∧ i = .int .i64 t ∧ u = .int .i64 x ∧ at0 + t ≤ L ∧ x < 2 ^ (7 * t) ∧ Hid (sevGo cs at0 (9 - t) t x = S) ∧ EyeAt wr E b o L K (at0 + t) .nilIface ∧ Far (fun y => y = E) w wr) (fun _ i _ => 9 - (intOf i).toNat)
  case atStart => exact ⟨0, 0, by decide, rfl, rfl, hat, by decide, HS0, hE, Far.refl _ _⟩
  case round =>
    clear hE
    obtain ⟨t, x, ht, rfl, rfl, hatn, hx, hgo, hE, hfr⟩ := hrel
    obtain ⟨p, hp⟩ : ∃ p, at0 + t = p := ⟨_, rfl⟩
    rw [hp] at hE hatn
    have HP := Lib.hid hp
    have c0 := hE.cell 0
    have c1 := hE.cell 1
    by_cases ht9 : t < 9
    · have e9 : ((t : Int) < 9) = True := eq_true (by omega)
      obtain ⟨m, hm⟩ : ∃ m, L - p = m := ⟨_, rfl⟩
      obtain ⟨cp, hcp⟩ : ∃ cp, K - p = cp := ⟨_, rfl⟩
      have hE' : Box wr E [.slice (some ⟨b, o + p, none⟩) m cp, .nilIface] 111 := by rw [← hm, ← hcp]; exact hE
      by_cases hend : p = L
      · have hm0 : m = 0 := by omega
        subst hm0
        have hnone : S = none := by
          rw [← hgo.out, show 9 - t = (8 - t) + 1 by omega, sevGo, hp, List.getElem?_eq_none (by rw [HL.out]; omega)]
        have HN := Lib.hid hnone
        have c0' := hE'.cell 0
        clear hnone c0 hp hm hcp hE'
        -- the way out where nothing can be read: the world wr, the eye's box hE, Far hfr
        have f9 := (hE).thawed 1
        have hgg := HGV.out _ hfr
        have hfin : EyeAt ((wr).setCell ⟨E, 1, none⟩ (.iface 169 pv)) E b o L K (p) (eyeErr (.iface 169 pv) false) := (hE).set 1 (.iface 169 pv)
        have hff : Far (fun y => y = E) w ((wr).setCell ⟨E, 1, none⟩ (.iface 169 pv)) := (hfr).st (fun _ => rfl) _
        have HFIN := Lib.hid hfin
        have HFF := Lib.hid hff
        clear hfin hff
        go_wp2
        go_ret
        exact ⟨0, p, false, rfl, HFIN.out, HFF.out, by have := HP.out; omega, by omega, Or.inr ⟨rfl, rfl, fun _ => by rw [HS.out, HN.out]⟩⟩
      · obtain ⟨c3, hd⟩ := HU.out wr hfr p (by omega)
        obtain ⟨d, hde⟩ : ∃ d, bt cs p = d := ⟨_, rfl⟩
        rw [hde] at c3 hd
        have hget : cs[p]? = some d := by rw [← hde]; exact bt_get (by rw [HL.out]; omega)
        have hand := and_127 hd
        obtain ⟨y, hy⟩ : ∃ y, d % 128 = y := ⟨_, rfl⟩
        rw [hy] at hand
        have hyb : y < 128 := by omega
        have hor := or_seven' hx hyb (by omega)
        obtain ⟨x2, hx2⟩ : ∃ x2, x + y * 2 ^ (7 * t) = x2 := ⟨_, rfl⟩
        rw [hx2] at hor
        have hxb : x2 < 2 ^ (7 * (t + 1)) := by
          rw [seven_pow, ← hx2]
          have := Nat.mul_le_mul_right (2 ^ (7 * t)) (show y ≤ 127 by omega)
          omega
        have HOR := Lib.hid hor
        have hstep : sevGo cs at0 (9 - t) t x = if d < 128 then (if d = 0 ∧ 0 < t then none else some (x + d * 2 ^ (7 * t), p + 1)) else sevGo cs at0 (9 - (t + 1)) (t + 1) x2 := by
          rw [show 9 - t = (9 - (t + 1)) + 1 by omega, sevGo, hp, hget]
          dsimp only
          rw [hy, hx2]
        rw [hgo.out] at hstep
        have HSTEP := Lib.hid hstep
        have HXB := Lib.hid hxb
        have HY := Lib.hid hy
        have HX2 := Lib.hid hx2
        clear hor hstep hxb hx2
        have e1 : ((m : Int) == 0) = false := by rw [beq_eq_false_iff_ne]; omega
        have p0 : (0 : Int) < (m : Int) := by omega
        have p1 : (1 : Int) ≤ (m : Int) := by omega
        have l3 : (cp = 1) = False := eq_false (by omega)
        have c0' := hE'.cell 0
        have f0 := hE'.thawed 0
        clear hde hp c0
        have hbx : EyeAt (wr.setCell ⟨E, 0, none⟩ (.slice (some ⟨b, o + p + 1, none⟩) (m - 1) (cp - 1))) E b o L K (p + 1) .nilIface := by
          have h1 := hE'.set 0 (.slice (some ⟨b, o + p + 1, none⟩) (m - 1) (cp - 1))
          have q1 : L - (p + 1) = m - 1 := by omega
          have q2 : K - (p + 1) = cp - 1 := by omega
          show Box _ E [.slice (some ⟨b, o + (p + 1), none⟩) (L - (p + 1)) (K - (p + 1)), .nilIface] 111
          rw [q1, q2]
          exact h1
        have hff : Far (fun y => y = E) w (wr.setCell ⟨E, 0, none⟩ (.slice (some ⟨b, o + p + 1, none⟩) (m - 1) (cp - 1))) := hfr.st (fun _ => rfl) _
        obtain ⟨ws, hws⟩ : ∃ ws, wr.setCell ⟨E, 0, none⟩ (.slice (some ⟨b, o + p + 1, none⟩) (m - 1) (cp - 1)) = ws := ⟨_, rfl⟩
        rw [hws] at hbx hff
        have HWS := Lib.hid hws
        have hpL : p + 1 ≤ L := by omega
        go_upto_region 8 with (fail)
        try rw [HWS.out]
        clear hws hE hE' hfr c0' f0 c1 c3 hm hcp
        go_upto_region 9 with (fail)
        rw [HOR.out]
        have b1 := hbx.cell 1
        by_cases hd128 : d < 128
        · have e2 : ((d : Int) < 128) = True := eq_true (by omega)
          have hyd : y = d := by have := HY.out; omega
          by_cases hz : d = 0 ∧ 0 < t
          · have hn : S = none := by rw [HSTEP.out, if_pos hd128, if_pos hz]
            have HN := Lib.hid hn
            have e3 : ((d : Int) == 0) = true := by rw [beq_iff_eq]; omega
            have e4 : ((t : Int) > 0) = True := eq_true (by omega)
            obtain ⟨hz1, hz2⟩ := hz
            clear hn hz1
            -- the way out where nothing can be read: the world ws, the eye's box hbx, Far hff
            have f9 := (hbx).thawed 1
            have hgg := HGV.out _ hff
            have hfin : EyeAt ((ws).setCell ⟨E, 1, none⟩ (.iface 169 pv)) E b o L K (p + 1) (eyeErr (.iface 169 pv) false) := (hbx).set 1 (.iface 169 pv)
            have hff : Far (fun y => y = E) w ((ws).setCell ⟨E, 1, none⟩ (.iface 169 pv)) := (hff).st (fun _ => rfl) _
            have HFIN := Lib.hid hfin
            have HFF := Lib.hid hff
            clear hfin hff
            go_wp2
            go_ret
            exact ⟨0, p + 1, false, rfl, HFIN.out, HFF.out, by have := HP.out; omega, by omega, Or.inr ⟨rfl, rfl, fun _ => by rw [HS.out, HN.out]⟩⟩
          · have hn : S = some (x2, p + 1) := by rw [HSTEP.out, if_pos hd128, if_neg hz, ← hyd, HX2.out]
            have HN := Lib.hid hn
            by_cases hz1 : d = 0
            · obtain rfl : t = 0 := by omega
              subst hz1
              clear hn hz e9 ht9 ht
              go_wp2
              go_ret
              exact ⟨x2, rfl, p + 1, Or.inr ⟨hbx, hff, by have := HP.out; omega, hpL, Or.inl ⟨rfl, rfl, by rw [HS.out, HN.out]⟩⟩⟩
            · have e3 : ((d : Int) == 0) = false := by rw [beq_eq_false_iff_ne]; omega
              clear hn hz
              go_wp2
              go_ret
              exact ⟨x2, p + 1, true, rfl, hbx, hff, by have := HP.out; omega, hpL, Or.inl ⟨rfl, rfl, by rw [HS.out, HN.out]⟩⟩
        · have e2 : ((d : Int) < 128) = False := eq_false (by omega)
          have HN : Hid (sevGo cs at0 (9 - (t + 1)) (t + 1) x2 = S) := Lib.hid (by rw [HSTEP.out, if_neg hd128])
          clear hd128
          go_wp2
          go_roundw
          case rel => exact ⟨t + 1, x2, by omega, by go_num, rfl, by have := HP.out; omega, HXB.out, HN, by have := HP.out; rw [show at0 + (t + 1) = p + 1 by omega]; exact hbx, hff⟩
          case measure => simp [intOf]; omega
    · obtain rfl : t = 9 := by omega
      have hnone : S = none := by rw [← hgo.out]; rfl
      have HN := Lib.hid hnone
      clear hnone hp c0
      -- the way out where nothing can be read: the world wr, the eye's box hE, Far hfr
      have f9 := (hE).thawed 1
      have hgg := HGV.out _ hfr
      have hfin : EyeAt ((wr).setCell ⟨E, 1, none⟩ (.iface 169 pv)) E b o L K (p) (eyeErr (.iface 169 pv) false) := (hE).set 1 (.iface 169 pv)
      have hff : Far (fun y => y = E) w ((wr).setCell ⟨E, 1, none⟩ (.iface 169 pv)) := (hfr).st (fun _ => rfl) _
      have HFIN := Lib.hid hfin
      have HFF := Lib.hid hff
      clear hfin hff
      go_wp2
      go_ret
      exact ⟨0, p, false, rfl, HFIN.out, HFF.out, by have := HP.out; omega, by omega, Or.inr ⟨rfl, rfl, fun _ => by rw [HS.out, HN.out]⟩⟩
/-- an eye that met something that it could not read stays where it is -/
theorem eyeNumber_not (b o L K E at0 : Nat) (pv : Value) (w : World) (hE : EyeAt w E b o L K at0 (.iface 169 pv)) (hE0 : E ≠ 0)
    (hg : w.cell? ⟨0, 0, none⟩ = some (.iface 169 pv)) :
    Calls Tryd.prog 52 #[.pointer (some ⟨E, 0, none⟩)] w fun e w' => e = .returned (.int .i64 0) ∧ EyeAt w' E b o L K at0 (.iface 169 pv) ∧ Far (fun y => y = E) w w' := by
  have c1 := hE.cell 1
  have f9 := hE.thawed 1
  have hfin : EyeAt (w.setCell ⟨E, 1, none⟩ (.iface 169 pv)) E b o L K at0 (.iface 169 pv) := hE.set 1 (.iface 169 pv)
  have hff : Far (fun y => y = E) w (w.setCell ⟨E, 1, none⟩ (.iface 169 pv)) := (Far.refl (fun y => y = E) w).st (fun _ => rfl) _
  have HFIN := Lib.hid hfin
  have HFF := Lib.hid hff
  clear hfin hff
  go_enter Tryd.func52, Tryd.ntmps52
  go_wp2
  go_loopw [3, 4] (fun u i wr => u = .int .i64 0 ∧ i = .int .i64 0 ∧ wr = w) (fun _ i _ => 0)
  case atStart => exact ⟨rfl, rfl, rfl⟩
  case round =>
    obtain ⟨rfl, rfl, rfl⟩ := hrel
    go_wp2
    go_ret
    exact ⟨rfl, HFIN.out, HFF.out⟩
end Go.Proofs.YtgknjikjjklaiaaDoor
