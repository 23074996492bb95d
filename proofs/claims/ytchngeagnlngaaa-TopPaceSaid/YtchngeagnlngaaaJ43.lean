/- Texts joined: Plan1, Plan2. -/
import Derived.Test.YtchngeagnlngaaaJ07
import Derived.Test.YtchngeagnlngaaaJ42
import Derived.WalkKit
import Derived.BigRegion
import Derived.RegionTactic
import Derived.Deep.RegionWith
import Derived.Deep.DeepMust
import Derived.DeepKeys4
import Derived.IntWalk
section
set_option linter.unusedVariables false
set_option linter.unusedSimpArgs false
set_option linter.unusedSectionVars false
namespace Gal
open Go
def Form.act : Form ActD := Form.int.and Form.int
def actV (a : ActD) : Value := .agg #[.int .i64 a.1, .int .i64 a.2]
theorem actV_inj {x y : ActD} (h : actV x = actV y) : x = y := by
 unfold actV at h
 simp only [Value.agg.injEq] at h
 have h1 := congrArg Array.toList h
 simp at h1
 exact Prod.ext h1.1 h1.2
theorem act_reads {w : World} {F : Nat → Prop} {cs : List Value} {x : ActD} (h : Form.act.reads w F cs x) : cs = [.int .i64 x.1, .int .i64 x.2] := by
 obtain ⟨c, d, rfl, rfl, rfl⟩ := h
 rfl
theorem act_cells {w : World} {F : Nat → Prop} {a : Option Addr} {n k b o : Nat} {l : List ActD} (h : RowAt Form.act w F a n k b o l) {t : Nat} (ht : t < n) : w.cell? ⟨b, o + t * 2, none⟩ = some (.int .i64 (ax l t).1) ∧ w.cell? ⟨b, o + t * 2 + 1, none⟩ = some (.int .i64 (ax l t).2) := by
 obtain ⟨cs, h1, h2⟩ := h.cell t (ax l t) (ax_get (by rw [h.len]; exact ht))
 rw [act_reads h1] at h2
 exact ⟨(h2 0 (by decide)).trans rfl, (h2 1 (by decide)).trans rfl⟩
end Gal
namespace Go.Proofs.Ytchngeagnlngaaa
open Go.RowKit Gal Go.Maps
set_option maxRecDepth 100000
set_option maxHeartbeats 2000000
theorem plan_laidOut : laidOutB Try.prog = true := by kernel_rfl
theorem act_row : 122 < Try.prog.types.size := by decide +kernel
theorem act_key : Try.prog.keyTypeAt 3 122 = true := by kernel_rfl
theorem act_wide : (match Try.prog.underlying 122 with | some (.array _ _) | some (.struct _) => true | _ => false) = true := by kernel_rfl
theorem act_keyed : Keyed Try.prog 122 := Keyed.of_law (deep_law_laid plan_laidOut (m := 3) (by omega) act_row act_key act_wide)
theorem zero_int (w : World) : (zeroValue 3).run Try.prog w = .ok (.int .i64 0) w := by kernel_rfl
theorem act_keyOf {a : ActD} (h : actOk 12 a) : ∃ kl, keyOf Try.prog 122 (actV a) = some kl := by
 obtain ⟨i, j, hi, hj, rfl⟩ := small_act h
 have hall : ∀ i : Fin 2, ∀ j : Fin 12, (keyOf Try.prog 122 (actV ((i.val : Int) + 1, (j.val : Int)))).isSome = true := by decide +kernel
 exact Option.isSome_iff_exists.1 (hall ⟨i, hi⟩ ⟨j, hj⟩)
theorem met_look {l : List ActD} {a : ActD} (hn : l.Nodup) (h : a ∈ l) : Gal.look (metOf l) a = 1 :=
 look_met (by rw [met_keys]; exact hn) (fun p hp => by obtain ⟨x, _, rfl⟩ := List.mem_map.1 hp; rfl) (met_is h)
theorem fault_any (l : List ActD) (M : Int) (a : Option Addr) (n k b o : Nat) (F : Nat → Prop) (w : World) (h : RowAt Form.act w F a n k b o l) (hM : 1 ≤ M ∧ M ≤ 12) :
  Calls Try.prog 76 #[.slice a n k, .int .i64 M] w fun e w' => e = .returned (errV (actsFault M l)) ∧ Below w.heap.size w w' := by
 have HL := Lib.hid h.len
 have hmx := h.max
 unfold maxLen at hmx
 obtain ⟨M1, M2⟩ := hM
 have hmm := @run_makeMap Try.prog
 go_enter Try.func76, Try.ntmps76
 go_wp2
 go_loopw [14] (fun i wr => ∃ t : Nat, t ≤ n ∧ i = .int .i64 t ∧ okTo M l t ∧ Below w.heap.size w wr) (fun i _ => n - (intOf i).toNat)
 case atStart => exact ⟨0, Nat.zero_le _, rfl, fun j hj => absurd hj (Nat.not_lt_zero _), Below.x0⟩
 case round =>
  obtain ⟨t, ht, rfl, hok, hbr⟩ := hrel
  have HOK := Lib.hid hok
  clear hok
  by_cases hlt : t < n
  ·obtain rfl := h.ptr (by omega)
   obtain ⟨c0, c1⟩ := act_cells (h.keep hbr) hlt
   obtain ⟨⟨x0, x1⟩, hx⟩ : ∃ x, ax l t = x := ⟨_, rfl⟩
   rw [hx] at c0 c1
   dsimp only at c0 c1
   have HX := Lib.hid hx
   have HT : Hid (t < l.length) := Lib.hid (by rw [HL.out]; exact hlt)
   clear hx
   by_cases hbad : actOk M (x0, x1)
   ·have HN : Hid (okTo M l (t + 1)) := Lib.hid fun j hj => by
     rcases Nat.lt_or_ge j t with h1 | h1
     ·exact HOK.out j h1
     ·obtain rfl : j = t := by omega
      rw [HX.out]; exact hbad
    obtain ⟨k1, k2, k3⟩ := hbad
    dsimp only at k1 k2 k3
    have e3 : (x1 < 0) = False := by simp; omega
    have e4 : (x1 ≥ M) = False := by simp; omega
    have e1 : (x0 != 1) = true → (x0 != 2) = false := by simp; omega
    rcases k1 with k1 | k1
    ·have e5 : (x0 != 1) = false := by simp [k1]
     clear e1 k1
     go_wp2
     go_roundw
     case rel => exact ⟨t + 1, by omega, by go_num, HN.out, (Below.y0 hbr)⟩
     case measure => simp [intOf]; omega
    ·have e5 : (x0 != 1) = true := by simp [k1]
     have e6 : (x0 != 2) = false := by simp [k1]
     clear e1 k1
     go_wp2
     go_roundw
     case rel => exact ⟨t + 1, by omega, by go_num, HN.out, (Below.y0 hbr)⟩
     case measure => simp [intOf]; omega
   ·have HB : Hid (actsFault M l = 1) := Lib.hid (actsFault_1 HT.out (by rw [HX.out]; exact hbad))
    unfold actOk at hbad
    dsimp only at hbad
    by_cases k1 : x0 = 1
    ·have e5 : (x0 != 1) = false := by simp [k1]
     by_cases k2 : x1 < 0
     ·clear k1 hbad
      go_wp2
      go_ret
      exact ⟨by rw [HB.out, errV_err (by decide)]; rfl, (Below.y0 hbr)⟩
     ·have e3 : (x1 < 0) = False := by simp; omega
      have e4 : x1 ≥ M := by omega
      clear k1 hbad k2
      go_wp2
      go_ret
      exact ⟨by rw [HB.out, errV_err (by decide)]; rfl, (Below.y0 hbr)⟩
    ·have e5 : (x0 != 1) = true := by simp [k1]
     by_cases k3 : x0 = 2
     ·have e6 : (x0 != 2) = false := by simp [k3]
      by_cases k2 : x1 < 0
      ·clear k1 hbad k3
       go_wp2
       go_ret
       exact ⟨by rw [HB.out, errV_err (by decide)]; rfl, (Below.y0 hbr)⟩
      ·have e3 : (x1 < 0) = False := by simp; omega
       have e4 : x1 ≥ M := by omega
       clear k1 hbad k2 k3
       go_wp2
       go_ret
       exact ⟨by rw [HB.out, errV_err (by decide)]; rfl, (Below.y0 hbr)⟩
     ·have e6 : (x0 != 2) = true := by simp [k3]
      clear k1 hbad k3
      go_wp2
      go_ret
      exact ⟨by rw [HB.out, errV_err (by decide)]; rfl, (Below.y0 hbr)⟩
  ·obtain rfl : n = t := by omega
   obtain ⟨wo, rfl⟩ : ∃ wo : World, wo = wr := ⟨_, rfl⟩
   have hokx : okTo M l l.length := by rw [HL.out]; exact HOK.out
   have HOKX := Lib.hid hokx
   clear hokx
   go_wp2
   go_loopw [42] (fun i wi => ∃ t : Nat, t ≤ n ∧ i = .int .i64 t ∧ MapIs Try.prog 122 actV wi wo.heap.size (metOf (l.take t)) ∧ Hid ((l.take t).Nodup) ∧ Below wo.heap.size wo wi) (fun i _ => n - (intOf i).toNat)
   case atStart => exact ⟨0, Nat.zero_le _, rfl, MapIs.new _, Lib.hid (by simp), Below.x0⟩
   case round =>
    obtain ⟨t, ht, rfl, hm, hnd, hbi⟩ := hrel
    by_cases hlt : t < n
    ·obtain rfl := h.ptr (by omega)
     obtain ⟨c0, c1⟩ := act_cells ((h.keep hbr).keep hbi) hlt
     obtain ⟨⟨x0, x1⟩, hx⟩ : ∃ x, ax l t = x := ⟨_, rfl⟩
     rw [hx] at c0 c1
     dsimp only at c0 c1
     have HX := Lib.hid hx
     clear hx
     obtain ⟨kl, hkl⟩ := act_keyOf (a := (x0, x1)) (by have h1 := HOKX.out t (by rw [HL.out]; exact hlt); rw [HX.out] at h1; exact ⟨h1.1, h1.2.1, by have := h1.2.2; omega⟩)
     have hmW := (hm.alloc (.cells #[.int .i64 x0, .int .i64 x1] 122)).drew
     have hlk := hmW.lookup act_keyed Try.underlying208 zero_int actV_inj hkl
     have hbW : Below wo.heap.size wo (wr.alloc (.cells #[.int .i64 x0, .int .i64 x1] 122)).drew := (Below.y0 hbi)
     have Bx := (Box.new wr [.int .i64 x0, .int .i64 x1] 122).drew
     have hne : wr.heap.size ≠ wo.heap.size := Nat.ne_of_gt hm.lt
     by_cases hnew : ax l t ∈ l.take t
     ·have hold := met_is hnew
      have hone := met_look hnd.out hnew
      have HB : Hid (actsFault M l = 8) := Lib.hid (actsFault_8 HOKX.out (nodup_no (by rw [HL.out]; exact hlt) hnew))
      rw [HX.out] at hold hone
      obtain ⟨st, w1, hme, hm1, ho1, hst⟩ := hmW.entry_old act_keyed Try.underlying208 zero_int actV_inj hkl hold
      obtain ⟨w3, hes, hm3, ho3⟩ := hst w1 2 rfl
      have hlk1 := hm1.lookup act_keyed Try.underlying208 zero_int actV_inj hkl
      have hlk3 := hm3.lookup act_keyed Try.underlying208 zero_int actV_inj hkl
      rw [look_putAt hold (by rw [met_keys]; exact hnd.out)] at hlk3
      rw [hone] at hlk hlk1 hme
      unfold actV at hlk hlk1 hlk3 hme
      dsimp only at hlk hlk1 hlk3 hme
      have B3 := (Bx.only ho1 hne).only ho3 hne
      have d0 := B3.cell 0
      have d1 := B3.cell 1
      have hb3 : Below wo.heap.size wo w3 := ho3.below (ho1.below hbW (Nat.le_refl _) (by have := hbi.size; simp; omega)) (Nat.le_refl _) (by have := hbi.size; have := ho1.2; simp at this; omega)
      have HB3 : Hid (Below w.heap.size w w3) := Lib.hid (hbr.trans (hb3.mono hbr.size))
      clear hst hnew hold hone hm1 hm3 ho1 ho3 hmW hne hbW Bx hm
      go_wp2
      go_region
      all_goals
       go_wp2
       go_ret
       exact ⟨by rw [HB.out, errV_err (by decide)]; rfl, HB3.out⟩
     ·have hnw := met_not hnew
      have HND : Hid ((l.take (t + 1)).Nodup) := Lib.hid (nodup_next (by rw [HL.out]; exact hlt) hnd.out hnew)
      have HTK : Hid (metOf (l.take (t + 1)) = metOf (l.take t) ++ [((x0, x1), 1)]) := Lib.hid (by rw [take_ax (by rw [HL.out]; exact hlt), metOf_snoc, HX.out])
      rw [HX.out] at hnw
      obtain ⟨st, w1, hme, hm1, ho1, hst⟩ := hmW.entry_new act_keyed Try.underlying208 zero_int actV_inj hkl hnw
      obtain ⟨w3, hes, hm3, ho3⟩ := hst w1 1 rfl
      have hlk1 := hm1.lookup act_keyed Try.underlying208 zero_int actV_inj hkl
      rw [look_touch act_keyed Try.underlying208 zero_int actV_inj hnw] at hlk1
      rw [look_none hnw] at hlk hlk1
      rw [← HTK.out] at hm3
      have hlk3 := hm3.lookup act_keyed Try.underlying208 zero_int actV_inj hkl
      rw [met_look HND.out (by rw [take_ax (by rw [HL.out]; exact hlt), HX.out]; simp)] at hlk3
      unfold actV at hlk hlk1 hlk3 hme
      dsimp only at hlk hlk1 hlk3 hme
      have B3 := (Bx.only ho1 hne).only ho3 hne
      have d0 := B3.cell 0
      have d1 := B3.cell 1
      have hb3 : Below wo.heap.size wo w3 := ho3.below (ho1.below hbW (Nat.le_refl _) (by have := hbi.size; simp; omega)) (Nat.le_refl _) (by have := hbi.size; have := ho1.2; simp at this; omega)
      clear hst hnew hnw hm1 ho1 ho3 hmW hne hbW Bx hm
      go_wp2
      go_region
      all_goals
       go_wp2
       go_roundw
       case rel => exact ⟨t + 1, by omega, by go_num, hm3, HND, hb3⟩
       case measure => simp [intOf]; omega
    ·obtain rfl : n = t := by omega
     have htk : l.take n = l := List.take_of_length_le (by rw [HL.out]; exact Nat.le_refl _)
     rw [htk] at hm hnd
     obtain ⟨wc, hcl, hmc, hoc⟩ := hm.clear Try.underlying208
     by_cases hsh : (n : Int) = 2 * M
     ·have hSH : Hid ((l.length : Int) = 2 * M) := Lib.hid (by rw [HL.out]; exact hsh)
      have e1 : ((n : Int) != 2 * M) = false := by simp [hsh]
      have hbc : Below w.heap.size w wc := hbr.trans ((hoc.below hbi (Nat.le_refl _) (by have := hbi.size; omega)).mono hbr.size)
      have hBB : w.heap.size ≤ wo.heap.size := hbr.size
      have hBC : wo.heap.size < wc.heap.size := hmc.lt
      clear hsh hoc hm htk hbi hlt
      go_wp2
      go_loopw [67] (fun i wi => ∃ t : Nat, t ≤ n ∧ i = .int .i64 t ∧ MapIs Try.prog 122 actV wi wo.heap.size (metOf (l.take t)) ∧ Hid (ordTo l t) ∧ Below w.heap.size w wi) (fun i _ => n - (intOf i).toNat)
      case atStart => exact ⟨0, Nat.zero_le _, rfl, hmc, Lib.hid fun j hj => absurd hj (Nat.not_lt_zero _), hbc⟩
      case round =>
       clear hcl hmc hbc hbr
       obtain ⟨t, ht, rfl, hm, hor, hbi⟩ := hrel
       by_cases hlt : t < n
       ·obtain rfl := h.ptr (by omega)
        obtain ⟨c0, c1⟩ := act_cells (h.keep hbi) hlt
        obtain ⟨⟨x0, x1⟩, hx⟩ : ∃ x, ax l t = x := ⟨_, rfl⟩
        rw [hx] at c0 c1
        dsimp only at c0 c1
        have HX := Lib.hid hx
        have hoks : actOk M (x0, x1) := by have h1 := HOKX.out t (by rw [HL.out]; exact hlt); rw [hx] at h1; exact h1
        have HT : Hid (t < l.length) := Lib.hid (by rw [HL.out]; exact hlt)
        have HTK : Hid (metOf (l.take (t + 1)) = metOf (l.take t) ++ [((x0, x1), 1)]) := Lib.hid (by rw [take_ax HT.out, metOf_snoc, hx])
        have hnw : ∀ p ∈ metOf (l.take t), p.1 ≠ (x0, x1) := met_not fun hmem => nodup_no HT.out (by rw [hx]; exact hmem) hnd.out
        obtain ⟨q1, q2, q3⟩ := hoks
        dsimp only at q1 q2 q3
        have H1 := Lib.hid q1
        obtain ⟨kl, hkl⟩ := act_keyOf (a := (x0, x1)) ⟨q1, q2, by dsimp only; omega⟩
        obtain ⟨kf, hkf⟩ := act_keyOf (a := (1, x1)) ⟨Or.inl rfl, q2, by dsimp only; omega⟩
        obtain ⟨w1, hup, hm1, ho1⟩ := (hm.alloc (.cells #[.int .i64 x0, .int .i64 x1] 122)).update act_keyed Try.underlying208 zero_int actV_inj hkl hnw 1
        have hlk := hm1.lookup act_keyed Try.underlying208 zero_int actV_inj hkf
        rw [← HTK.out] at hm1 hlk
        have hne : wr.heap.size ≠ wo.heap.size := Nat.ne_of_gt hm.lt
        have B1 := (Box.new wr [.int .i64 x0, .int .i64 x1] 122).only ho1 hne
        have d0 := B1.cell 0
        have d1 := B1.cell 1
        have hb1 : Below w.heap.size w w1 := ho1.below ((Below.y0 hbi) : Below w.heap.size w (wr.alloc (.cells #[.int .i64 x0, .int .i64 x1] 122))) hBB (by have := hbi.size; simp; omega)
        unfold actV at hup hlk
        dsimp only at hup hlk
        clear hx hnw hkl hkf ho1 hm hbi hne q1
        by_cases k2 : x0 = 2
        ·have e5 : (x0 == 2) = true := by simp [k2]
         by_cases hmem : (1, x1) ∈ l.take (t + 1)
         ·have hl1 := met_look (hnd.out.sublist (List.take_sublist _ _)) hmem
          rw [hl1] at hlk
          have HO : Hid (ordTo l (t + 1)) := Lib.hid fun j hj => by
           rcases Nat.lt_or_ge j t with h1 | h1
           ·exact hor.out j h1
           ·obtain rfl : j = t := by omega
            intro _
            rw [HX.out]; exact hmem
          clear k2 hmem hl1
          go_wp2
          go_roundw
          case rel => exact ⟨t + 1, by omega, by go_num, hm1, HO, hb1⟩
          case measure => simp [intOf]; omega
         ·rw [look_none (met_not hmem)] at hlk
          have HB : Hid (actsFault M l = 5) := Lib.hid (actsFault_5 HOKX.out hnd.out hSH.out HT.out (by unfold ordAt; rw [HX.out]; exact fun h1 => hmem (h1 k2)))
          clear k2 hmem
          go_wp2
          go_ret
          exact ⟨by rw [HB.out, errV_err (by decide)]; rfl, hb1⟩
        ·have e5 : (x0 == 2) = false := by simp [k2]
         have HO : Hid (ordTo l (t + 1)) := Lib.hid fun j hj => by
          rcases Nat.lt_or_ge j t with h1 | h1
          ·exact hor.out j h1
          ·obtain rfl : j = t := by omega
           intro h2
           rw [HX.out] at h2
           exact absurd h2 k2
         clear k2
         go_wp2
         go_roundw
         case rel => exact ⟨t + 1, by omega, by go_num, hm1, HO, hb1⟩
         case measure => simp [intOf]; omega
       ·obtain rfl : n = t := by omega
        have HB : Hid (actsFault M l = 0) := Lib.hid (actsFault_0 HOKX.out hnd.out hSH.out (by rw [HL.out]; exact hor.out))
        go_wp2
        go_ret
        exact ⟨by rw [HB.out, errV_nil rfl]; rfl, hbi⟩
     ·have HB : Hid (actsFault M l = 2) := Lib.hid (actsFault_2 HOKX.out hnd.out (by rw [HL.out]; exact hsh))
      have e1 : ((n : Int) != 2 * M) = true := by simp [hsh]
      clear hsh hcl hmc hoc hm htk
      go_wp2
      go_ret
      exact ⟨by rw [HB.out, errV_err (by decide)]; rfl, (hbr.trans (hbi.mono hbr.size))⟩
end Go.Proofs.Ytchngeagnlngaaa
end
section
set_option linter.unusedVariables false
set_option linter.unusedSimpArgs false
set_option linter.unusedSectionVars false
namespace Gal
open Go
def atV (x : Int × ActD) : Value := .agg #[.int .i64 x.1, .int .i64 x.2.1, .int .i64 x.2.2]
theorem atV_inj {x y : Int × ActD} (h : atV x = atV y) : x = y := by
 unfold atV at h
 simp only [Value.agg.injEq] at h
 have h1 := congrArg Array.toList h
 simp at h1
 exact Prod.ext h1.1 (Prod.ext h1.2.1 h1.2.2)
theorem small_at {x : Int × ActD} (h0 : 0 ≤ x.1 ∧ x.1 < 6) (h : actOk 12 x.2) : ∃ s i j : Nat, s < 6 ∧ i < 2 ∧ j < 12 ∧ x = ((s : Int), ((i : Int) + 1, (j : Int))) := by
 obtain ⟨i, j, hi, hj, h1⟩ := small_act h
 exact ⟨x.1.toNat, i, j, by omega, hi, hj, Prod.ext (by dsimp only; omega) h1⟩
def doneL (l : List ((Int × ActD) × Int)) (s : Int) (a : ActD) : Bool := look l (s, a) == 1
def readyL (l : List ((Int × ActD) × Int)) (S s : Int) (a : ActD) : Bool :=
 if a.1 = 1 then (if s = 0 then true else doneL l (s - 1) a) else (if doneL l s (1, a.2) = true then (if s = S - 1 then true else doneL l (s + 1) a) else false)
end Gal
namespace Go.Proofs.Ytchngeagnlngaaa
open Go.RowKit Gal Go.Maps
set_option maxRecDepth 100000
set_option maxHeartbeats 2000000
theorem at_row : 172 < Try.prog.types.size := by decide +kernel
theorem at_key : Try.prog.keyTypeAt 3 172 = true := by kernel_rfl
theorem at_wide : (match Try.prog.underlying 172 with | some (.array _ _) | some (.struct _) => true | _ => false) = true := by kernel_rfl
theorem at_keyed : Keyed Try.prog 172 := Keyed.of_law (deep_law_laid plan_laidOut (m := 3) (by omega) at_row at_key at_wide)
theorem at_keyOf {x : Int × ActD} (h0 : 0 ≤ x.1 ∧ x.1 < 6) (h : actOk 12 x.2) : ∃ kl, keyOf Try.prog 172 (atV x) = some kl := by
 obtain ⟨s, i, j, hs, hi, hj, rfl⟩ := small_at h0 h
 have hall : ∀ s : Fin 6, ∀ i : Fin 2, ∀ j : Fin 12, (keyOf Try.prog 172 (atV ((s.val : Int), ((i.val : Int) + 1, (j.val : Int))))).isSome = true := by decide +kernel
 exact Option.isSome_iff_exists.1 (hall ⟨s, hs⟩ ⟨i, hi⟩ ⟨j, hj⟩)
def DidAt (w : World) (pd B : Nat) (l : List ((Int × ActD) × Int)) : Prop := Box w pd [.map (some B)] 170 ∧ MapIs Try.prog 172 atV w B l
theorem DidAt.keep {w w' : World} {pd B : Nat} {l : List ((Int × ActD) × Int)} (h : DidAt w pd B l) (hb : Below w.heap.size w w') : DidAt w' pd B l := ⟨h.1.keep hb, h.2.keep hb⟩
theorem DidAt.alloc {w : World} {pd B : Nat} {l : List ((Int × ActD) × Int)} (h : DidAt w pd B l) (o : Obj) : DidAt (w.alloc o) pd B l := ⟨h.1.alloc o, h.2.alloc o⟩
theorem done_any (s : Int) (a : ActD) (pd B : Nat) (l : List ((Int × ActD) × Int)) (w : World) (h : DidAt w pd B l) (hs : 0 ≤ s ∧ s < 6) (ha : actOk 12 a) :
  Calls Try.prog 77 #[.int .i64 s, .agg #[.int .i64 a.1, .int .i64 a.2], .pointer (some ⟨pd, 0, none⟩)] w fun e w' => e = .returned (.bool (doneL l s a)) ∧ Below w.heap.size w w' := by
 obtain ⟨kl, hkl⟩ := at_keyOf (x := (s, a)) hs ha
 obtain ⟨hp, hm⟩ := h
 have hlk := (hm.alloc (.cells #[.int .i64 a.1, .int .i64 a.2] 122)).lookup at_keyed Try.underlying170 zero_int atV_inj hkl
 have cp := (hp.alloc (.cells #[.int .i64 a.1, .int .i64 a.2] 122)).cell 0
 unfold atV at hlk
 dsimp only at hlk
 clear hm hp hkl
 go_enter Try.func77, Try.ntmps77
 go_wp2
 go_ret
 exact ⟨rfl, Below.x0⟩
theorem ready_any (S s : Int) (a : ActD) (pd B : Nat) (l : List ((Int × ActD) × Int)) (w : World) (h : DidAt w pd B l) (hs : 0 ≤ s ∧ s < S) (hS : S ≤ 6) (ha : actOk 12 a) :
  Calls Try.prog 78 #[.func (.func 77) #[] #[.pointer (some ⟨pd, 0, none⟩)], .int .i64 S, .int .i64 s, .agg #[.int .i64 a.1, .int .i64 a.2]] w fun e w' => e = .returned (.bool (readyL l S s a)) ∧ Below w.heap.size w w' := by
 obtain ⟨s0, s1⟩ := hs
 have HA := Lib.hid ha
 have ha1 := ha.1
 have hD := h.alloc (.cells #[.int .i64 a.1, .int .i64 a.2] 122)
 have HR : Hid (readyL l S s a = if a.1 = 1 then (if s = 0 then true else doneL l (s - 1) a) else (if doneL l s (1, a.2) = true then (if s = S - 1 then true else doneL l (s + 1) a) else false)) := Lib.hid rfl
 obtain ⟨R, hR⟩ : ∃ R, readyL l S s a = R := ⟨_, rfl⟩
 rw [hR] at HR ⊢
 clear hR
 obtain ⟨x0, x1⟩ := a
 dsimp only at ha1 HR hD ⊢
 by_cases k1 : x0 = 1
 ·have e1 : (x0 == 1) = true := by simp [k1]
  by_cases k2 : s = 0
  ·have e2 : (s == 0) = true := by simp [k2]
   have HV : Hid (R = true) := Lib.hid (by rw [HR.out, if_pos k1, if_pos k2])
   clear k1 k2 ha1 ha
   go_enter Try.func78, Try.ntmps78
   go_wp2
   go_ret
   exact ⟨by rw [HV.out]; rfl, Below.x0⟩
  ·have e2 : (s == 0) = false := by simp [k2]
   have HV : Hid (R = doneL l (s - 1) (x0, x1)) := Lib.hid (by rw [HR.out, if_pos k1, if_neg k2])
   have s2 : 1 ≤ s := by omega
   clear k1 k2 ha1 ha
   go_enter Try.func78, Try.ntmps78
   go_wp2_with fail
   refine (done_any (s - 1) (x0, x1) pd B l _ hD (by omega) HA.out).mono ?_
   rintro e w1 ⟨rfl, hb1⟩
   go_wp2
   go_ret
   exact ⟨by rw [HV.out]; rfl, (Below.x1 hb1)⟩
 ·have e1 : (x0 == 1) = false := by simp [k1]
  have HAF : Hid (actOk 12 (1, x1)) := Lib.hid ⟨Or.inl rfl, ha.2⟩
  by_cases k3 : doneL l s (1, x1) = true
  ·by_cases k2 : s = S - 1
   ·have e2 : (s == S - 1) = true := by simp [k2]
    have HV : Hid (R = true) := Lib.hid (by rw [HR.out, if_neg k1, if_pos k3, if_pos k2])
    have K3 := Lib.hid k3
    clear k1 k2 k3 ha1 ha
    go_enter Try.func78, Try.ntmps78
    go_wp2_with fail
    refine (done_any s (1, x1) pd B l _ hD (by omega) HAF.out).mono ?_
    rintro e w1 ⟨rfl, hb1⟩
    rw [K3.out]
    have Bx := (Box.new w [.int .i64 x0, .int .i64 x1] 122).keep hb1
    have d0 := Bx.cell 0
    have d1 := Bx.cell 1
    go_wp2
    go_ret
    exact ⟨by rw [HV.out]; rfl, (Below.x1 hb1)⟩
   ·have e2 : (s == S - 1) = false := by simp [k2]
    have HV : Hid (R = doneL l (s + 1) (x0, x1)) := Lib.hid (by rw [HR.out, if_neg k1, if_pos k3, if_neg k2])
    have s2 : s + 1 < S := by omega
    have K3 := Lib.hid k3
    clear k1 k2 k3 ha1 ha
    go_enter Try.func78, Try.ntmps78
    go_wp2_with fail
    refine (done_any s (1, x1) pd B l _ hD (by omega) HAF.out).mono ?_
    rintro e w1 ⟨rfl, hb1⟩
    rw [K3.out]
    have Bx := (Box.new w [.int .i64 x0, .int .i64 x1] 122).keep hb1
    have d0 := Bx.cell 0
    have d1 := Bx.cell 1
    go_wp2_with fail
    refine (done_any (s + 1) (x0, x1) pd B l _ (hD.keep hb1) (by omega) HA.out).mono ?_
    rintro e w2 ⟨rfl, hb2⟩
    go_wp2
    go_ret
    exact ⟨by rw [HV.out]; rfl, (Below.x2 hb2 hb1)⟩
  ·have HV : Hid (R = false) := Lib.hid (by rw [HR.out, if_neg k1, if_neg k3])
   have K3 : Hid (doneL l s (1, x1) = false) := Lib.hid (by simpa using k3)
   clear k1 k3 ha1 ha
   go_enter Try.func78, Try.ntmps78
   go_wp2_with fail
   refine (done_any s (1, x1) pd B l _ hD (by omega) HAF.out).mono ?_
   rintro e w1 ⟨rfl, hb1⟩
   rw [K3.out]
   go_wp2
   go_ret
   exact ⟨by rw [HV.out]; rfl, (Below.x1 hb1)⟩
end Go.Proofs.Ytchngeagnlngaaa
end
