/- Texts joined: Clk4. -/
import Derived.Test.YtchngeagnlngaaaJ50
section
set_option linter.unusedVariables false
set_option linter.unusedSimpArgs false
set_option linter.unusedSectionVars false
set_option maxRecDepth 100000
namespace Go.Proofs.Ytchngeagnlngaaa
open Go.RowKit Gal Go.Maps
set_option maxHeartbeats 8000000
theorem cell_kept {w w' : World} {a : Addr} {v : Value} (hb : Below w.heap.size w w') (h : w.cell? a = some v) : w'.cell? a = some v := (hb.cell (World.block_lt_of_cell? w _ h)).trans h
theorem info_span : (Try.prog.info? 118).map (fun i => (i.zero, i.size, i.bytes)) = some (some (.agg #[.int .i64 0, .int .i64 0]), 2, 16) := by kernel_rfl
theorem info_spans : (Try.prog.info? 116).map (fun i => (i.zero, i.size, i.bytes)) = some (some (.slice none 0 0), 1, 24) := by kernel_rfl
structure ClkAt (p : PlanD) (th bk : List Int) (w wr : World) (B n : Nat) (vp vt vb : Value) (nx : Nat → Nat) (X : Nat → List SpanD) (l : List ((Int × ActD) × Int)) (vs : Nat → Value) : Prop where
 dial : DialAt wr (B + 1) B vp vt vb l
 out : OutIs wr (B + 1 + 1) n vs X
 inv : ClkInv p th bk nx X l
 below : Below w.heap.size w wr
 size : B + 3 ≤ wr.heap.size
theorem ClkAt.keep {p : PlanD} {th bk : List Int} {w wr w' : World} {B n : Nat} {vp vt vb : Value} {nx : Nat → Nat} {X : Nat → List SpanD} {l : List ((Int × ActD) × Int)} {vs : Nat → Value} (h : ClkAt p th bk w wr B n vp vt vb nx X l vs) (hb : Below wr.heap.size wr w') : ClkAt p th bk w w' B n vp vt vb nx X l vs :=
 ⟨h.dial.keep hb, h.out.keep hb, h.inv, h.below.trans (hb.mono h.below.size), Nat.le_trans h.size hb.size⟩
theorem clkTimes_ok (p : PlanD) (th bk : List Int) (m n : Nat) (a ta ba : Option Addr) (k b o kt kb bt bb ot ob : Nat) (F : Nat → Prop) (w : World) (h : RowAt Form.plan w F a n k b o p) (ht : IntsAt w ta n kt bt ot th) (hb : IntsAt w ba n kb bb ob bk)
    (hf : planFault m p = 0) (hth : ∀ i, i < n → 1 ≤ ix th i ∧ ix th i ≤ 1000000) (hbk : ∀ i, i < n → 1 ≤ ix bk i ∧ ix bk i ≤ 1000000) :
    Calls Try.prog 17 #[.slice a n k, .int .i64 m, .slice ta n kt, .slice ba n kb] w fun e w' => ∃ a1 k1 b1 nx X l, e = .returned (.tuple #[.slice a1 n k1, .nilIface]) ∧ RowAt Form.plan w' anyB a1 n k1 b1 0 ((List.range n).map X) ∧ ClkInv p th bk nx X l ∧ (∀ s, s < n → nx s = (px p s).length) ∧ Below w.heap.size w w' := by
  have HL := Lib.hid h.len
  have hmx := h.max
  unfold maxLen at hmx
  obtain ⟨hnb, haf⟩ := stage_len hf
  obtain ⟨⟨m1, m12⟩, n1, n6⟩ : (1 ≤ m ∧ m ≤ 12) ∧ 1 ≤ n ∧ n ≤ 6 := by unfold planBad at hnb; rw [HL.out] at hnb; omega
  rw [HL.out] at haf
  have HAF := Lib.hid haf
  have HF := Lib.hid hf
  have HTH := Lib.hid hth
  have HBK := Lib.hid hbk
  obtain rfl := h.ptr (by omega)
  have hlb := h.lt (by omega)
  have HDN : Hid (∀ nx, Gal.Reach p nx → (∀ s, s < n → ¬ can p nx s) → ∀ s, s < n → nx s = (px p s).length) := Lib.hid (by
    intro nx hr hst s hs
    have h1 := stuck_is (p := p) (nx := nx) (m := m) (by rw [HL.out]; exact HAF.out) hr (by rw [HL.out]; exact hst) s (by rw [HL.out]; exact hs)
    by_cases hd : doneAll p (ranOf p (2 * ((m : Int)).toNat * p.length))
    · rw [Int.toNat_natCast] at hd
      rw [← h1]
      exact hd s (by rw [HL.out]; exact hs)
    · have h2 := planFault_6 (M := (m : Int)) (p := p) hnb (stageFault_none (by rw [HL.out]; exact HAF.out)) hd
      rw [hf] at h2
      exact absurd h2 (by decide))
  have hP := h
  have hT0 := ht
  have hB0 := hb
  obtain ⟨i0, hi, hz0, hz1, hz2⟩ := info_parts info_spans
  obtain ⟨j0, hj, hy0', hy1, hy2⟩ := info_parts info_span
  have hmk := fun W => run_make_rowN (P := Try.prog) 54 116 i0 _ Try.underlying54 hi hz0 .i64 .i64 n n (n : Int) (n : Int) rfl rfl (Nat.le_refl _) (by rw [hz2]; omega) (by omega) W
  rw [hz1, Nat.mul_one] at hmk
  have hmc : (madeCells (Value.slice none 0 0).cells n) = ((List.range n).map fun _ => Value.slice none 0 0).toArray := by
    apply Array.toList_inj.1
    show (madeCells #[Value.slice none 0 0] n).toList = _
    rw [toList_madeCells_one]
    simp [List.map_const']
  rw [hmc] at hmk
  clear hmc hnb haf hf hth hbk
  obtain ⟨T, hT⟩ : ∃ T, 2 * m * n = T := ⟨_, rfl⟩
  have hTI : 2 * (m : Int) * (n : Int) = (T : Int) := by rw [← hT]; push_cast; rfl
  have hTb : T ≤ 144 := by
    have h1 : 2 * m * n ≤ 2 * 12 * 6 := Nat.mul_le_mul (by omega) n6
    omega
  have hTw : wrap64 (2 * (m : Int) * (n : Int)) = (T : Int) := by rw [hTI]; unfold wrap64; omega
  have HT := Lib.hid hT
  have HTW := Lib.hid hTw
  clear hT hTI hTw
  have x0 : ∀ W : World, (Instr.index 110 (.agg #[.slice ta n kt, .slice ba n kb]) (.int .i64 0)).run Try.prog W = .ok (.slice ta n kt) W := fun _ => by kernel_rfl
  have x1 : ∀ W : World, (Instr.index 110 (.agg #[.slice ta n kt, .slice ba n kb]) (.int .i64 1)).run Try.prog W = .ok (.slice ba n kb) W := fun _ => by kernel_rfl
  go_enter Try.func17, Try.ntmps17
  go_wp2_with fail
  refine (planCheck_any p m _ n k b o F _ h).mono ?_
  rintro e w1 ⟨rfl, hb1⟩
  rw [errV_nil HF.out]
  replace h := h.keep hb1
  replace ht := ht.keep hb1
  replace hb := hb.keep hb1
  go_wp2_with fail
  go_loopw [36] (fun i wr => ∃ t : Int, (t = 0 ∨ t = 1 ∨ t = 2) ∧ i = .int .i64 t ∧ wr = w1.drewN 0) (fun i _ => 2 - (intOf i).toNat)
  case atStart => exact ⟨0, Or.inl rfl, rfl, rfl⟩
  case round =>
    obtain ⟨t, ht2, rfl, rfl⟩ := hrel
    rcases ht2 with rfl | rfl | rfl
    · skip
      go_wp2_with fail
      refine (clkCosts_any _ n _ n _ (by unfold maxLen; omega) (by unfold maxLen; omega)).mono ?_
      rintro e w2 ⟨rfl, rfl⟩
      rw [if_pos rfl]
      go_wp2
      go_roundw
      case rel => exact ⟨1, by omega, by go_num, by trivial⟩
      case measure => simp [intOf]
    · skip
      go_wp2_with fail
      refine (clkCosts_any _ n _ n _ (by unfold maxLen; omega) (by unfold maxLen; omega)).mono ?_
      rintro e w2 ⟨rfl, rfl⟩
      rw [if_pos rfl]
      go_wp2
      go_roundw
      case rel => exact ⟨2, by omega, by go_num, by trivial⟩
      case measure => simp [intOf]
    · go_wp2
      go_loopw [50] (fun i wr => ∃ t : Int, (t = 0 ∨ t = 1 ∨ t = 2) ∧ i = .int .i64 t ∧ wr = w1.drewN 0) (fun i _ => 2 - (intOf i).toNat)
      case atStart => exact ⟨0, Or.inl rfl, rfl, rfl⟩
      case round =>
        obtain ⟨t, ht2, rfl, rfl⟩ := hrel
        rcases ht2 with rfl | rfl | rfl
        · skip
          go_wp2
          go_loopw [55] (fun i wr => ∃ t : Nat, t ≤ n ∧ i = .int .i64 t ∧ wr = w1.drewN 0) (fun i _ => n - (intOf i).toNat)
          case atStart => exact ⟨0, Nat.zero_le _, rfl, rfl⟩
          case round =>
            obtain ⟨t, htn, rfl, rfl⟩ := hrel
            by_cases hlt : t < n
            · have cx := ht.cell t hlt
              have hbx := HTH.out t hlt
              obtain rfl := ht.ptr (by omega)
              obtain ⟨hx1, hx2⟩ := hbx
              obtain ⟨x, hx⟩ : ∃ x, ix th t = x := ⟨_, rfl⟩
              rw [hx] at cx hx1 hx2
              have e2 : (x < 1) = False := by simp; omega
              have e3 : (x > 1000000) = False := by simp; omega
              clear hx
              go_wp2
              go_roundw
              case rel => exact ⟨t + 1, by omega, by go_num, by trivial⟩
              case measure => simp [intOf]; omega
            · obtain rfl : n = t := by omega
              go_wp2
              go_roundw
              case rel => exact ⟨1, by omega, by go_num, by trivial⟩
              case measure => simp [intOf]
        · skip
          go_wp2
          go_loopw [55] (fun i wr => ∃ t : Nat, t ≤ n ∧ i = .int .i64 t ∧ wr = w1.drewN 0) (fun i _ => n - (intOf i).toNat)
          case atStart => exact ⟨0, Nat.zero_le _, rfl, rfl⟩
          case round =>
            obtain ⟨t, htn, rfl, rfl⟩ := hrel
            by_cases hlt : t < n
            · have cx := hb.cell t hlt
              have hbx := HBK.out t hlt
              obtain rfl := hb.ptr (by omega)
              obtain ⟨hx1, hx2⟩ := hbx
              obtain ⟨x, hx⟩ : ∃ x, ix bk t = x := ⟨_, rfl⟩
              rw [hx] at cx hx1 hx2
              have e2 : (x < 1) = False := by simp; omega
              have e3 : (x > 1000000) = False := by simp; omega
              clear hx
              go_wp2
              go_roundw
              case rel => exact ⟨t + 1, by omega, by go_num, by trivial⟩
              case measure => simp [intOf]; omega
            · obtain rfl : n = t := by omega
              go_wp2
              go_roundw
              case rel => exact ⟨2, by omega, by go_num, by trivial⟩
              case measure => simp [intOf]
        · obtain ⟨B, hB⟩ : ∃ B, w1.heap.size = B := ⟨_, rfl⟩
          have hBw : Hid (w.heap.size ≤ B) := Lib.hid (by rw [← hB]; exact hb1.size)
          obtain ⟨vs, hvs⟩ : ∃ vs : Nat → Value, (fun _ => Value.slice none 0 0) = vs := ⟨_, rfl⟩
          have hclk : ClkAt p th bk w ((((w1.drewN 0).alloc (.map #[] 0)).alloc (.cells #[.slice (some ⟨b, o, none⟩) n k, .slice ta n kt, .slice ba n kb, .map (some B)] 114)).alloc (.cells ((List.range n).map fun _ => Value.slice none 0 0).toArray 116)) B n (.slice (some ⟨b, o, none⟩) n k) (.slice ta n kt) (.slice ba n kb) (fun _ => 0) (fun _ => []) [] vs :=
            ⟨⟨(Box.new' _ _ [.slice (some ⟨b, o, none⟩) n k, .slice ta n kt, .slice ba n kb, .map (some B)] _ (by simp [hB])).alloc _, ((MapIs.new' _ _ hB.symm).alloc _).alloc _⟩,
             ⟨by rw [← hvs]; exact Box.new' _ _ _ _ (by simp [hB]), fun s hs => by rw [← hvs]; exact OwnRow.nil _ _ _ _ _, fun s t hs ht e g hg => by rw [← hvs] at hg; cases hg⟩,
             ClkInv.nil p th bk, (Below.x1 hb1), by simp [hB]⟩
          obtain ⟨wz, hwz⟩ : ∃ wz, ((((w1.drewN 0).alloc (.map #[] 0)).alloc (.cells #[.slice (some ⟨b, o, none⟩) n k, .slice ta n kt, .slice ba n kb, .map (some B)] 114)).alloc (.cells ((List.range n).map fun _ => Value.slice none 0 0).toArray 116)) = wz := ⟨_, rfl⟩
          have hbz : Below w1.heap.size w1 wz := by rw [← hwz]; exact Below.x0
          rw [hwz] at hclk
          have HWZ := Lib.hid hwz
          clear hwz hvs
          have hmm := @run_makeMap Try.prog
          have hTw := HTW.out
          have HSUM : Hid (∀ nx, Gal.Reach p nx → sumTo' nx n ≤ T ∧ ∀ s, s < n → nx s ≤ 2 * m) := Lib.hid (by
            intro nx hr
            have h0 : ∀ s, s < n → nx s ≤ 2 * m := fun s hs => by
              have h1 := (actsFault_ok (HAF.out s hs)).2.2.1
              have h2 := reach_bd hr s (by rw [HL.out]; exact hs)
              omega
            refine ⟨?_, h0⟩
            have h3 := sum_le (c := 2 * m) (n := n) h0
            rw [HT.out] at h3
            exact h3)
          have hs0 : (T : Int) = (T : Int) - (sumTo' (fun _ => 0) n : Int) := by rw [sum_zero]; simp
          go_wp2
          rw [hTw, hs0]
          clear hs0 hmk hmm hTw
          go_loopw [20] (fun c wr => ∃ (nx : Nat → Nat) (X : Nat → List SpanD) (l : List ((Int × ActD) × Int)) (vs : Nat → Value), c = .int .i64 ((T : Int) - (sumTo' nx n : Int)) ∧ ClkAt p th bk w wr B n (.slice (some ⟨b, o, none⟩) n k) (.slice ta n kt) (.slice ba n kb) nx X l vs) (fun c _ => (intOf c).toNat)
          case atStart => exact ⟨_, _, _, vs, rfl, by rw [HWZ.out]; exact hclk⟩
          case round =>
            clear hclk
            obtain ⟨nx, X, l, vs, rfl, hclk⟩ := hrel
            have hsT := (HSUM.out nx hclk.inv.reach).1
            obtain ⟨sm, hsm⟩ : ∃ sm, sumTo' nx n = sm := ⟨_, rfl⟩
            have HSM := Lib.hid hsm
            rw [hsm] at hsT ⊢
            clear hsm
            by_cases hleft : sm < T
            · have e1 : (T : Int) - (sm : Int) > 0 := by omega
              go_wp2
              go_loopw [20, 86] (fun c i wr => ∃ (t : Nat) (ny : Nat → Nat) (X : Nat → List SpanD) (l : List ((Int × ActD) × Int)) (vs : Nat → Value), t ≤ n ∧ i = .int .i64 t ∧ c = .int .i64 ((T : Int) - (sumTo' ny n : Int)) ∧ ClkAt p th bk w wr B n (.slice (some ⟨b, o, none⟩) n k) (.slice ta n kt) (.slice ba n kb) ny X l vs ∧ Hid (sm < sumTo' ny n ∨ (sm = sumTo' ny n ∧ ∀ r, r < t → ¬ can p ny r))) (fun _ i _ => n - (intOf i).toNat)
              case atStart => exact ⟨0, nx, X, l, vs, Nat.zero_le _, rfl, by rw [HSM.out], hclk, Lib.hid (Or.inr ⟨HSM.out.symm, fun r hr => absurd hr (Nat.not_lt_zero _)⟩)⟩
              case round =>
                clear hclk
                obtain ⟨t, ny, X, l, vs, htn, rfl, rfl, hclk, hno⟩ := hrel
                by_cases hlt : t < n
                · obtain ⟨a1, n1', k1, b1, o1, c0, hr1⟩ := plan_cell hP hlt
                  have hL1 := hr1.len
                  have hmx1 := hr1.max
                  unfold maxLen at hmx1
                  have HL1 := Lib.hid hL1
                  have hn24 : n1' ≤ 24 := by have h1 := (actsFault_ok (HAF.out t hlt)).2.2.1; omega
                  have hlen0 := hclk.inv.len t (by rw [HL.out]; exact hlt)
                  have hle0 := reach_bd hclk.inv.reach t (by rw [HL.out]; exact hlt)
                  rw [hL1] at hle0
                  obtain ⟨ao, ko, bo, hvo, _, hro⟩ := (hclk.out.own t hlt).row (G := anyB) (fun _ _ _ => trivial) (fun _ _ => trivial)
                  have cO := hclk.out.cell hlt
                  rw [hvo, hlen0] at cO
                  have cP := cell_kept hclk.below c0
                  have HLEN0 := Lib.hid hlen0
                  obtain ⟨y0, hy0⟩ : ∃ y0, ny t = y0 := ⟨_, rfl⟩
                  have HY0 := Lib.hid hy0
                  rw [hy0] at cO hle0
                  clear hL1 hvo hro hlen0 hy0
                  go_wp2
                  go_loopw [20, 23] (fun c i wr => ∃ (y : Nat) (nz : Nat → Nat) (X : Nat → List SpanD) (l : List ((Int × ActD) × Int)) (vs : Nat → Value), y ≤ n1' ∧ i = .int .i64 y ∧ Hid (nz t = y) ∧ c = .int .i64 ((T : Int) - (sumTo' nz n : Int)) ∧ ClkAt p th bk w wr B n (.slice (some ⟨b, o, none⟩) n k) (.slice ta n kt) (.slice ba n kb) nz X l vs ∧ Hid (sm < sumTo' nz n ∨ (sm = sumTo' nz n ∧ ∀ r, r < t → ¬ can p nz r))) (fun _ i _ => n1' - (intOf i).toNat)
                  case atStart => exact ⟨y0, ny, X, l, vs, hle0, rfl, HY0, rfl, hclk, hno⟩
                  case round =>
                    clear hclk hno cO cP
                    obtain ⟨y, nz, X, l, vs, hyn, rfl, hy, rfl, hclk, hno⟩ := hrel
                    by_cases hyl : y < n1'
                    · have hlen := hclk.inv.len t (by rw [HL.out]; exact hlt)
                      rw [hy.out] at hlen
                      obtain ⟨ao, ko, bo, hvo, _, hro⟩ := (hclk.out.own t hlt).row (G := anyB) (fun _ _ _ => trivial) (fun _ _ => trivial)
                      have cO := hclk.out.cell hlt
                      rw [hvo, hlen] at cO
                      rw [hlen] at hro
                      have HVO := Lib.hid hvo
                      have hr2 := hr1.keep hclk.below
                      obtain rfl := hr2.ptr (by omega)
                      obtain ⟨d0, d1⟩ := act_cells hr2 hyl
                      obtain ⟨⟨x0, x1⟩, hx⟩ : ∃ x, ax (px p t) y = x := ⟨_, rfl⟩
                      rw [hx] at d0 d1
                      dsimp only at d0 d1
                      have hact : actOk 12 (x0, x1) := by
                        have h1 := (actsFault_ok (HAF.out t hlt)).1 y (by rw [HL1.out]; exact hyl)
                        rw [hx] at h1
                        exact ⟨h1.1, h1.2.1, by have := h1.2.2; omega⟩
                      have HACT := Lib.hid hact
                      have HX := Lib.hid hx
                      have hdep := hclk.inv.dep (m := m) (by rw [HL.out]; exact HAF.out) (s := t) (by rw [HL.out]; exact hlt) (by rw [hy.out, HL1.out]; exact hyl) (a := (x0, x1)) (by rw [hy.out]; exact hx)
                      rw [HL.out] at hdep
                      have hpv := hclk.inv.prev (s := t) (by rw [HL.out]; exact hlt)
                      rw [hy.out, HL.out] at hpv
                      obtain ⟨F0, hF0⟩ : ∃ F0, prevTo (X t) y = F0 := ⟨_, rfl⟩
                      rw [hF0] at hpv
                      have HF0 := Lib.hid hF0
                      have hsT3 := (HSUM.out nz hclk.inv.reach).1
                      obtain ⟨f0, f1⟩ : 0 ≤ F0 ∧ F0 ≤ 1000000000 := by omega
                      have HDEP := Lib.hid hdep
                      clear hvo hx hact hdep hpv
                      rcases Nat.eq_zero_or_pos y with hy0 | hy0
                      · have HF1 : Hid (F0 = 0) := Lib.hid (by rw [← hF0, hy0]; rfl)
                        obtain rfl : y = 0 := hy0
                        obtain rfl : F0 = 0 := HF1.out
                        simp only [Nat.zero_mul, Nat.add_zero] at d0 d1
                        clear hF0
                        rcases HDEP.out with ⟨hc, tt, ht1, ht2, ht3, ht4⟩ | ⟨hc, ht2⟩
                        · obtain ⟨L, hL⟩ : ∃ L, longOf th bk t (x0, x1) = L := ⟨_, rfl⟩
                          obtain ⟨FF, hFF⟩ : ∃ FF, max (0) tt = FF := ⟨_, rfl⟩
                          have hLb : 1 ≤ L ∧ L ≤ 1000000 := by
                            rw [← hL]
                            unfold longOf
                            split
                            · exact HBK.out t hlt
                            · exact HTH.out t hlt
                          have hst := hclk.inv.step (m := m) (by rw [HL.out]; exact HAF.out) (s := t) (by rw [HL.out]; exact hlt) (a := (x0, x1)) (by rw [hy.out]; exact HX.out) hc ht1 (by rw [HL.out]; exact ⟨ht3, ht4⟩) (F := FF) (L := L) (by rw [hy.out, HF0.out]; exact hFF) hL hLb
                          have hnw := hclk.inv.new (m := m) (by rw [HL.out]; exact HAF.out) (s := t) (by rw [HL.out]; exact hlt) (by rw [hy.out, HL1.out]; exact hyl) (a := (x0, x1)) (by rw [hy.out]; exact HX.out)
                          have HSTEP := Lib.hid hst
                          have hsb := sum_bump (nx := nz) (s := t) (n := n) hlt
                          have HSB : Hid (((T : Int) - (sumTo' nz n : Int)) - 1 = (T : Int) - (sumTo' (bump nz t) n : Int) ∧ sm < sumTo' (bump nz t) n) := Lib.hid ⟨by omega, by rcases hno.out with h1 | ⟨h1, _⟩ <;> omega⟩
                          have hFb : 0 ≤ FF ∧ FF ≤ 1000000000 := by omega
                          obtain ⟨FF0, FF1⟩ := hFb
                          clear hst hsb
                          go_wp2_with fail
                          refine (clkPlace_ok t (x0, x1) (0) tt (B + 1) B _ ta ba n k kt kb bt bb ot ob th bk l _ hclk.dial (hT0.keep hclk.below) (hB0.keep hclk.below) n6 hlt HACT.out ht2 hnw ⟨by omega, by omega⟩ ⟨ht3, by omega⟩ (by rw [hL]; exact hLb)).mono ?_
                          rintro e w2 ⟨rfl, hD2, hf2⟩
                          rw [hL, hFF] at hD2 ⊢
                          have hO2 := hclk.out.farS hf2 (fun k hk => by have : k = B := hk; omega)
                          have hbel2 : Below w.heap.size w w2 := Far.toBelow hclk.below hf2 hclk.below.size (fun k hk => by rw [show k = B from hk]; exact hBw.out)
                          have hsz2 : B + 3 ≤ w2.heap.size := Nat.le_trans hclk.size hf2.size
                          obtain ⟨L0, L1⟩ := hLb
                          clear hc ht1 ht2 hnw hL hFF hf2 d0 d1 cO
                          obtain ⟨w3, hw3⟩ : ∃ w3, w2.alloc (.cells #[.int .i64 FF, .int .i64 (FF + L)] 118) = w3 := ⟨_, rfl⟩
                          have hb3 : Below w2.heap.size w2 w3 := by rw [← hw3]; exact Below.x0
                          have bx : Box w3 w2.heap.size [.int .i64 FF, .int .i64 (FF + L)] 118 := by rw [← hw3]; exact Box.new' _ _ [.int .i64 FF, .int .i64 (FF + L)] _ rfl
                          have hO3 := hO2.keep hb3
                          have hD3 := hD2.keep hb3
                          have hbel3 : Below w.heap.size w w3 := hbel2.trans (hb3.mono hbel2.size)
                          have hsz3 : B + 3 ≤ w3.heap.size := Nat.le_trans hsz2 hb3.size
                          have c3 := hO3.cell hlt
                          rw [HVO.out, hlen] at c3
                          have f3 := hO3.box.thawed t
                          have p0 := bx.cell 0
                          have p1 := bx.cell 1
                          have hown3 := hO3.own t hlt
                          have hvt : vs t = (.slice ao 0 ko) := by rw [HVO.out, hlen]
                          rw [hvt] at hown3
                          have HVT := Lib.hid hvt
                          have HW3 := Lib.hid hw3
                          have HLEN3 := Lib.hid hlen
                          have q0 : (0 : Int) ≤ (t : Int) := by omega
                          have q1 : (t : Int) < (n : Int) := by omega
                          have HO := Lib.hid (hO3.keep (w' := (w3.alloc (.cells #[.int .i64 FF, .int .i64 (FF + L)] 118)).drew) Below.x0)
                          have HD := Lib.hid (hD3.keep (w' := (w3.alloc (.cells #[.int .i64 FF, .int .i64 (FF + L)] 118)).drew) Below.x0)
                          have c3a := fun ob => cell_kept ((Below.refl _ w3).alloc (Nat.le_refl _) ob) c3
                          have p0a := fun ob => cell_kept ((Below.refl _ w3).alloc (Nat.le_refl _) ob) p0
                          have p1a := fun ob => cell_kept ((Below.refl _ w3).alloc (Nat.le_refl _) ob) p1
                          clear hw3 hO2 hD2 hbel2 hb3 hvt
                          go_wp2
                          rw [HW3.out]
                          go_region_law ((refine at_oper ⟨some 134, _, _, _, _, _⟩ ?_; go_must (refine step_push rfl (.tmp 131) (.tmp 133) 116 (by rfl) Form.act (B + 1 + 1 + 1) noB 118 j0 (.agg #[.int .i64 0, .int .i64 0]) 16 Try.underlying116 hj hy0' hy1 hy2 (by rfl) (by decide) ((.slice ao 0 ko)) (X t) (by rfl) (hown3.keep Below.x0) w3.heap.size 1 [.int .i64 FF, .int .i64 (FF + L)] 118 (FF, FF + L) (by rfl) (Box.new' w3 w3.heap.size [.int .i64 FF, .int .i64 (FF + L)] 118 rfl) (act_reads' _ _) (by rw [HLEN3.out]; omega) (by rw [HLEN3.out]; unfold maxLen; omega) (by simp; omega) _ rfl ?_)); intro g cap w4 hown4 hgrow hlies hgs; have hbO := HO.out.box.grown hgrow (fun e => by have := (hown3.base_le _ e.symm).1; omega); have c4 : w4.cell? ⟨B + 1 + 1, t, none⟩ = some (vs t) := (by rw [hbO.cell, List.getElem?_map, List.getElem?_range hlt]; rfl); have f4 := hbO.thawed t)
                          all_goals
                            have hbw : Below w.heap.size w w4 := Below.grown ((Below.y0 hbel3) : Below w.heap.size w (w3.alloc (.cells #[.int .i64 FF, .int .i64 (FF + L)] 118)).drew) hgrow (by have := hbel3.size; simp; omega) (fun k hk => by have := (hown3.base_le _ hk).1; have := hBw.out; omega)
                            rw [← HVT.out] at hgrow hlies
                            have hp := HO.out.push hlt hown4 hgrow hlies
                            have hdb := HD.out.box.grown hgrow (fun e => by have := ((HO.out.own t hlt).base_le _ e.symm).1; omega)
                            have hdm := HD.out.map.block (hgrow.block B HD.out.map.lt (fun e => by have := ((HO.out.own t hlt).base_le _ e.symm).1; omega))
                            have hfin : ClkAt p th bk w (w4.setCell ⟨B + 1 + 1, t, none⟩ (.slice (some ⟨g, 0, none⟩) ((X t).length + 1) cap)) B n (.slice (some ⟨b, o, none⟩) n k) (.slice ta n kt) (.slice ba n kb) (bump nz t) (putRow X t (FF, FF + L)) (l ++ [(((t : Int), (x0, x1)), FF + L)]) (fun r => if r = t then .slice (some ⟨g, 0, none⟩) ((X t).length + 1) cap else vs r) :=
                              ⟨⟨hdb.far (by dsimp only; omega) _, hdm.far (by dsimp only; omega) _⟩, hp, HSTEP.out, hbw.setCell (by have := hBw.out; dsimp only; omega) _, by have := hgrow.size; simp [World.setCell] at this ⊢; omega⟩
                            have HNY : Hid (bump nz t t = 0 + 1) := Lib.hid (by unfold bump; rw [if_pos rfl, hy.out])
                            have HS1 := HSB.out.1
                            have HS2 := HSB.out.2
                            obtain ⟨nb, hnb⟩ : ∃ nb, bump nz t = nb := ⟨_, rfl⟩
                            obtain ⟨X2, hX2⟩ : ∃ X2, putRow X t (FF, FF + L) = X2 := ⟨_, rfl⟩
                            obtain ⟨l2, hl2⟩ : ∃ l2, l ++ [(((t : Int), (x0, x1)), FF + L)] = l2 := ⟨_, rfl⟩
                            obtain ⟨vs2, hvs2⟩ : ∃ vs2 : Nat → Value, (fun r => if r = t then .slice (some ⟨g, 0, none⟩) ((X t).length + 1) cap else vs r) = vs2 := ⟨_, rfl⟩
                            rw [hnb, hX2, hl2, hvs2, HLEN3.out] at hfin
                            rw [hnb] at HNY HS1 HS2
                            obtain ⟨sN, hsN⟩ : ∃ sN, sumTo' nb n = sN := ⟨_, rfl⟩
                            rw [hsN] at HS1 HS2
                            have HFIN := Lib.hid hfin
                            have HSN := Lib.hid hsN
                            have HH1 := Lib.hid HS1
                            have HH2 := Lib.hid HS2
                            clear hfin hp hdb hdm hbw hown4 hgrow hlies hbO c3a p0a p1a c3 p0 p1 c4 f4 f3 hown3 hO3 hD3 hclk hno hro hr2 hlen hsz3 hbel3 bx hnb hX2 hl2 hvs2 hsN HS1 HS2 HO HD HSTEP HSB
                            go_wp2
                            go_roundw
                            case rel => exact ⟨0 + 1, nb, X2, l2, vs2, by omega, by go_num, HNY, by rw [HSN.out]; exact congrArg (Value.int .i64) HH1.out, HFIN.out, Lib.hid (Or.inl (by rw [HSN.out]; exact HH2.out))⟩
                            case measure => simp [intOf]; omega
                        · go_wp2_with fail
                          refine (clkPlace_no t (x0, x1) (0) 0 (B + 1) B _ ta ba n k kt kb bt bb ot ob th bk l _ hclk.dial (hT0.keep hclk.below) (hB0.keep hclk.below) n6 hlt HACT.out ht2).mono ?_
                          rintro e w2 ⟨rfl, hb2⟩
                          have HNO : Hid (sm < sumTo' nz n ∨ (sm = sumTo' nz n ∧ ∀ r, r < t + 1 → ¬ can p nz r)) := Lib.hid (by
                            rcases hno.out with h1 | ⟨h1, h2⟩
                            · exact Or.inl h1
                            · refine Or.inr ⟨h1, fun r hr => ?_⟩
                              rcases Nat.lt_or_ge r t with h3 | h3
                              · exact h2 r h3
                              · obtain rfl : r = t := by omega
                                exact hc)
                          clear hc ht2
                          go_wp2
                          go_roundw
                          case rel => exact ⟨t + 1, nz, X, l, vs, by omega, by go_num, rfl, hclk.keep (Below.x1 hb2), HNO⟩
                          case measure => simp [intOf]; omega
                      · obtain ⟨z, hz⟩ : ∃ z, y - 1 = z := ⟨_, rfl⟩
                        have hzy : (y : Int) - 1 = (z : Int) := by omega
                        have hzn : z < y := by omega
                        obtain ⟨_, g1⟩ := act_cells hro hzn
                        have hF1 : (ax (X t) z).2 = F0 := by rw [← hF0, ← hz]; unfold prevTo; rw [if_neg (by omega)]
                        rw [hF1, Nat.zero_add] at g1
                        obtain rfl := hro.ptr (by omega)
                        have hyp : (y : Int) > 0 := by omega
                        clear hF0 hF1 hz
                        rcases HDEP.out with ⟨hc, tt, ht1, ht2, ht3, ht4⟩ | ⟨hc, ht2⟩
                        · obtain ⟨L, hL⟩ : ∃ L, longOf th bk t (x0, x1) = L := ⟨_, rfl⟩
                          obtain ⟨FF, hFF⟩ : ∃ FF, max (F0) tt = FF := ⟨_, rfl⟩
                          have hLb : 1 ≤ L ∧ L ≤ 1000000 := by
                            rw [← hL]
                            unfold longOf
                            split
                            · exact HBK.out t hlt
                            · exact HTH.out t hlt
                          have hst := hclk.inv.step (m := m) (by rw [HL.out]; exact HAF.out) (s := t) (by rw [HL.out]; exact hlt) (a := (x0, x1)) (by rw [hy.out]; exact HX.out) hc ht1 (by rw [HL.out]; exact ⟨ht3, ht4⟩) (F := FF) (L := L) (by rw [hy.out, HF0.out]; exact hFF) hL hLb
                          have hnw := hclk.inv.new (m := m) (by rw [HL.out]; exact HAF.out) (s := t) (by rw [HL.out]; exact hlt) (by rw [hy.out, HL1.out]; exact hyl) (a := (x0, x1)) (by rw [hy.out]; exact HX.out)
                          have HSTEP := Lib.hid hst
                          have hsb := sum_bump (nx := nz) (s := t) (n := n) hlt
                          have HSB : Hid (((T : Int) - (sumTo' nz n : Int)) - 1 = (T : Int) - (sumTo' (bump nz t) n : Int) ∧ sm < sumTo' (bump nz t) n) := Lib.hid ⟨by omega, by rcases hno.out with h1 | ⟨h1, _⟩ <;> omega⟩
                          have hFb : 0 ≤ FF ∧ FF ≤ 1000000000 := by omega
                          obtain ⟨FF0, FF1⟩ := hFb
                          clear hst hsb
                          go_wp2_with fail
                          refine (clkPlace_ok t (x0, x1) (F0) tt (B + 1) B _ ta ba n k kt kb bt bb ot ob th bk l _ hclk.dial (hT0.keep hclk.below) (hB0.keep hclk.below) n6 hlt HACT.out ht2 hnw ⟨by omega, by omega⟩ ⟨ht3, by omega⟩ (by rw [hL]; exact hLb)).mono ?_
                          rintro e w2 ⟨rfl, hD2, hf2⟩
                          rw [hL, hFF] at hD2 ⊢
                          have hO2 := hclk.out.farS hf2 (fun k hk => by have : k = B := hk; omega)
                          have hbel2 : Below w.heap.size w w2 := Far.toBelow hclk.below hf2 hclk.below.size (fun k hk => by rw [show k = B from hk]; exact hBw.out)
                          have hsz2 : B + 3 ≤ w2.heap.size := Nat.le_trans hclk.size hf2.size
                          obtain ⟨L0, L1⟩ := hLb
                          clear hc ht1 ht2 hnw hL hFF hf2 d0 d1 cO
                          obtain ⟨w3, hw3⟩ : ∃ w3, w2.alloc (.cells #[.int .i64 FF, .int .i64 (FF + L)] 118) = w3 := ⟨_, rfl⟩
                          have hb3 : Below w2.heap.size w2 w3 := by rw [← hw3]; exact Below.x0
                          have bx : Box w3 w2.heap.size [.int .i64 FF, .int .i64 (FF + L)] 118 := by rw [← hw3]; exact Box.new' _ _ [.int .i64 FF, .int .i64 (FF + L)] _ rfl
                          have hO3 := hO2.keep hb3
                          have hD3 := hD2.keep hb3
                          have hbel3 : Below w.heap.size w w3 := hbel2.trans (hb3.mono hbel2.size)
                          have hsz3 : B + 3 ≤ w3.heap.size := Nat.le_trans hsz2 hb3.size
                          have c3 := hO3.cell hlt
                          rw [HVO.out, hlen] at c3
                          have f3 := hO3.box.thawed t
                          have p0 := bx.cell 0
                          have p1 := bx.cell 1
                          have hown3 := hO3.own t hlt
                          have hvt : vs t = (.slice (some ⟨bo, 0, none⟩) y ko) := by rw [HVO.out, hlen]
                          rw [hvt] at hown3
                          have HVT := Lib.hid hvt
                          have HW3 := Lib.hid hw3
                          have HLEN3 := Lib.hid hlen
                          have q0 : (0 : Int) ≤ (t : Int) := by omega
                          have q1 : (t : Int) < (n : Int) := by omega
                          have HO := Lib.hid (hO3.keep (w' := (w3.alloc (.cells #[.int .i64 FF, .int .i64 (FF + L)] 118)).drew) Below.x0)
                          have HD := Lib.hid (hD3.keep (w' := (w3.alloc (.cells #[.int .i64 FF, .int .i64 (FF + L)] 118)).drew) Below.x0)
                          have c3a := fun ob => cell_kept ((Below.refl _ w3).alloc (Nat.le_refl _) ob) c3
                          have p0a := fun ob => cell_kept ((Below.refl _ w3).alloc (Nat.le_refl _) ob) p0
                          have p1a := fun ob => cell_kept ((Below.refl _ w3).alloc (Nat.le_refl _) ob) p1
                          clear hw3 hO2 hD2 hbel2 hb3 hvt
                          go_wp2
                          rw [HW3.out]
                          go_region_law ((refine at_oper ⟨some 134, _, _, _, _, _⟩ ?_; go_must (refine step_push rfl (.tmp 131) (.tmp 133) 116 (by rfl) Form.act (B + 1 + 1 + 1) noB 118 j0 (.agg #[.int .i64 0, .int .i64 0]) 16 Try.underlying116 hj hy0' hy1 hy2 (by rfl) (by decide) ((.slice (some ⟨bo, 0, none⟩) y ko)) (X t) (by rfl) (hown3.keep Below.x0) w3.heap.size 1 [.int .i64 FF, .int .i64 (FF + L)] 118 (FF, FF + L) (by rfl) (Box.new' w3 w3.heap.size [.int .i64 FF, .int .i64 (FF + L)] 118 rfl) (act_reads' _ _) (by rw [HLEN3.out]; omega) (by rw [HLEN3.out]; unfold maxLen; omega) (by simp; omega) _ rfl ?_)); intro g cap w4 hown4 hgrow hlies hgs; have hbO := HO.out.box.grown hgrow (fun e => by have := (hown3.base_le _ e.symm).1; omega); have c4 : w4.cell? ⟨B + 1 + 1, t, none⟩ = some (vs t) := (by rw [hbO.cell, List.getElem?_map, List.getElem?_range hlt]; rfl); have f4 := hbO.thawed t)
                          all_goals
                            have hbw : Below w.heap.size w w4 := Below.grown ((Below.y0 hbel3) : Below w.heap.size w (w3.alloc (.cells #[.int .i64 FF, .int .i64 (FF + L)] 118)).drew) hgrow (by have := hbel3.size; simp; omega) (fun k hk => by have := (hown3.base_le _ hk).1; have := hBw.out; omega)
                            rw [← HVT.out] at hgrow hlies
                            have hp := HO.out.push hlt hown4 hgrow hlies
                            have hdb := HD.out.box.grown hgrow (fun e => by have := ((HO.out.own t hlt).base_le _ e.symm).1; omega)
                            have hdm := HD.out.map.block (hgrow.block B HD.out.map.lt (fun e => by have := ((HO.out.own t hlt).base_le _ e.symm).1; omega))
                            have hfin : ClkAt p th bk w (w4.setCell ⟨B + 1 + 1, t, none⟩ (.slice (some ⟨g, 0, none⟩) ((X t).length + 1) cap)) B n (.slice (some ⟨b, o, none⟩) n k) (.slice ta n kt) (.slice ba n kb) (bump nz t) (putRow X t (FF, FF + L)) (l ++ [(((t : Int), (x0, x1)), FF + L)]) (fun r => if r = t then .slice (some ⟨g, 0, none⟩) ((X t).length + 1) cap else vs r) :=
                              ⟨⟨hdb.far (by dsimp only; omega) _, hdm.far (by dsimp only; omega) _⟩, hp, HSTEP.out, hbw.setCell (by have := hBw.out; dsimp only; omega) _, by have := hgrow.size; simp [World.setCell] at this ⊢; omega⟩
                            have HNY : Hid (bump nz t t = y + 1) := Lib.hid (by unfold bump; rw [if_pos rfl, hy.out])
                            have HS1 := HSB.out.1
                            have HS2 := HSB.out.2
                            obtain ⟨nb, hnb⟩ : ∃ nb, bump nz t = nb := ⟨_, rfl⟩
                            obtain ⟨X2, hX2⟩ : ∃ X2, putRow X t (FF, FF + L) = X2 := ⟨_, rfl⟩
                            obtain ⟨l2, hl2⟩ : ∃ l2, l ++ [(((t : Int), (x0, x1)), FF + L)] = l2 := ⟨_, rfl⟩
                            obtain ⟨vs2, hvs2⟩ : ∃ vs2 : Nat → Value, (fun r => if r = t then .slice (some ⟨g, 0, none⟩) ((X t).length + 1) cap else vs r) = vs2 := ⟨_, rfl⟩
                            rw [hnb, hX2, hl2, hvs2, HLEN3.out] at hfin
                            rw [hnb] at HNY HS1 HS2
                            obtain ⟨sN, hsN⟩ : ∃ sN, sumTo' nb n = sN := ⟨_, rfl⟩
                            rw [hsN] at HS1 HS2
                            have HFIN := Lib.hid hfin
                            have HSN := Lib.hid hsN
                            have HH1 := Lib.hid HS1
                            have HH2 := Lib.hid HS2
                            clear hfin hp hdb hdm hbw hown4 hgrow hlies hbO c3a p0a p1a c3 p0 p1 c4 f4 f3 hown3 hO3 hD3 hclk hno hro hr2 hlen hsz3 hbel3 bx hnb hX2 hl2 hvs2 hsN HS1 HS2 HO HD HSTEP HSB
                            go_wp2
                            go_roundw
                            case rel => exact ⟨y + 1, nb, X2, l2, vs2, by omega, by go_num, HNY, by rw [HSN.out]; exact congrArg (Value.int .i64) HH1.out, HFIN.out, Lib.hid (Or.inl (by rw [HSN.out]; exact HH2.out))⟩
                            case measure => simp [intOf]; omega
                        · go_wp2_with fail
                          refine (clkPlace_no t (x0, x1) (F0) 0 (B + 1) B _ ta ba n k kt kb bt bb ot ob th bk l _ hclk.dial (hT0.keep hclk.below) (hB0.keep hclk.below) n6 hlt HACT.out ht2).mono ?_
                          rintro e w2 ⟨rfl, hb2⟩
                          have HNO : Hid (sm < sumTo' nz n ∨ (sm = sumTo' nz n ∧ ∀ r, r < t + 1 → ¬ can p nz r)) := Lib.hid (by
                            rcases hno.out with h1 | ⟨h1, h2⟩
                            · exact Or.inl h1
                            · refine Or.inr ⟨h1, fun r hr => ?_⟩
                              rcases Nat.lt_or_ge r t with h3 | h3
                              · exact h2 r h3
                              · obtain rfl : r = t := by omega
                                exact hc)
                          clear hc ht2
                          go_wp2
                          go_roundw
                          case rel => exact ⟨t + 1, nz, X, l, vs, by omega, by go_num, rfl, hclk.keep (Below.x1 hb2), HNO⟩
                          case measure => simp [intOf]; omega
                    · have HNO : Hid (sm < sumTo' nz n ∨ (sm = sumTo' nz n ∧ ∀ r, r < t + 1 → ¬ can p nz r)) := Lib.hid (by
                        rcases hno.out with h1 | ⟨h1, h2⟩
                        · exact Or.inl h1
                        · refine Or.inr ⟨h1, fun r hr => ?_⟩
                          rcases Nat.lt_or_ge r t with h3 | h3
                          · exact h2 r h3
                          · obtain rfl : r = t := by omega
                            intro h4
                            have h5 := h4.1
                            rw [hy.out, HL1.out] at h5
                            exact hyl h5)
                      have e1 : ((y : Int) < (n1' : Int)) = False := by simp; omega
                      clear hyl
                      go_wp2
                      go_roundw
                      case rel => exact ⟨t + 1, nz, X, l, vs, by omega, by go_num, rfl, hclk, HNO⟩
                      case measure => simp [intOf]; omega
                · obtain rfl : n = t := by omega
                  have hgt : sm < sumTo' ny n := by
                    rcases hno.out with h1 | ⟨h1, h2⟩
                    · exact h1
                    · exfalso
                      have h3 := HDN.out ny hclk.inv.reach h2
                      have h4 := (sum_full (nx := ny) (c := 2 * m) (n := n) (HSUM.out ny hclk.inv.reach).2).2 fun s hs => by
                        have h5 := (actsFault_ok (HAF.out s hs)).2.2.1
                        rw [h3 s hs]; omega
                      rw [HT.out] at h4
                      omega
                  have hsT2 := (HSUM.out ny hclk.inv.reach).1
                  go_wp2
                  go_roundw
                  case rel => exact ⟨ny, X, l, vs, rfl, hclk⟩
                  case measure => simp [intOf]; omega
            · obtain rfl : sm = T := by omega
              have e1 : ((sm : Int) - (sm : Int) > 0) = False := by simp
              have hfull := (sum_full (nx := nx) (c := 2 * m) (n := n) (HSUM.out nx hclk.inv.reach).2).1 (by rw [HSM.out, HT.out])
              have hrow := hclk.out.row (by unfold maxLen; omega)
              go_wp2
              go_ret2
              exact ⟨_, _, _, nx, X, l, rfl, hrow, hclk.inv, fun s hs => by have h5 := (actsFault_ok (HAF.out s hs)).2.2.1; rw [hfull s hs]; omega, hclk.below⟩
end Go.Proofs.Ytchngeagnlngaaa
end
