/- ClockBubble: waves and turns are as long: as many parts and stages, less 1, times there and back, where all stages take the same; so each stage waits as often as there are others: the law returns true, and nothing that was there has changed. No condition. -/
import Derived.Test.YtjaepdkeldgikaaRows
import Derived.Test.YtjaepdkeldgikaaClk4
import Derived.Test.YtjaepdkeldgikaaPClk3
import Derived.Test.YtjaepdkeldgikaaOpenI
import Derived.BigQuiet
set_option linter.unusedVariables false
set_option linter.unusedSimpArgs false
set_option linter.unusedSectionVars false
namespace Go.Proofs.Ytjaepdkeldgikaa.lawClockBubble
open Go.ChangeShapes Go.WideShapes Go.ChangeAt Go.RowKit Gal
set_option maxRecDepth 100000
set_option maxHeartbeats 4000000
theorem rep_ix {n s : Nat} {x : Int} (hs : s < n) : ix (List.replicate n x) s = x := by simp [ix, hs]
theorem pick_bd (c : Int) : 0 ≤ pickOf c 1000000 ∧ pickOf c 1000000 < 1000000 := ⟨Int.emod_nonneg _ (by omega), Int.emod_lt_of_pos _ (by omega)⟩
structure TwoRows (w : World) (B t : Nat) (x y : Int) (va vb : Value) : Prop where
  a : OwnRow Form.int 3 w B noB va (List.replicate t x)
  b : OwnRow Form.int 3 w B noB vb (List.replicate t y)
  apart : ∀ g, va.ownBlock = some g → vb.ownBlock ≠ some g
theorem walk_ok (s m : Nat) (f b : Int) (w : World) (hs : 1 ≤ s ∧ s ≤ 6) (hm : 1 ≤ m ∧ m ≤ 12) (hf : -9223372036854775808 ≤ f ∧ f ≤ 9223372036854775807) (hb : -9223372036854775808 ≤ b ∧ b ≤ 9223372036854775807) :
    Calls Try.prog 8 #[.int .i64 s, .int .i64 m, .int .i64 f, .int .i64 b] w fun e w' => e = .returned (.bool true) ∧ Below w.heap.size w w' := by
  obtain ⟨i0, hi, hz0, hz1, hz2⟩ := info_parts info_int'
  have HF := Lib.hid hf
  have HB := Lib.hid hb
  clear hf hb
  go_enter Try.func8, Try.ntmps8
  go_wp2_with fail
  refine (planFact_any w).mono ?_
  rintro e w1 ⟨rfl, hb1⟩
  go_wp2_with fail
  refine (planWave_ok s m _ hs hm).mono ?_
  rintro e w2 ⟨v, rfl, hp, hb2⟩
  obtain ⟨a, k, p, rfl, _, hr⟩ := planNew_row hp
  clear hp
  go_wp2_with fail
  refine (planTurns_ok s m _ hs hm).mono ?_
  rintro e w3 ⟨v, rfl, hp, hb3⟩
  obtain ⟨a', k', p', rfl, _, hr'⟩ := planNew_row hp
  replace hr := hr.keep hb3
  clear hp
  go_wp2_with fail
  refine (pick_any f 1000000 _ HF.out.1 HF.out.2 (by omega) (by omega)).mono ?_
  rintro e w4 ⟨rfl, rfl⟩
  obtain ⟨P, hP⟩ : ∃ P, pickOf f 1000000 = P := ⟨_, rfl⟩
  have hPb := pick_bd f
  rw [hP] at hPb ⊢
  obtain ⟨hP0, hP1⟩ := hPb
  obtain ⟨x, hx⟩ : ∃ x, (1 : Int) + P = x := ⟨_, rfl⟩
  have hxb : 1 ≤ x ∧ x ≤ 1000000 := by omega
  clear hP
  go_wp2_with fail
  refine (pick_any b 1000000 _ HB.out.1 HB.out.2 (by omega) (by omega)).mono ?_
  rintro e w4 ⟨rfl, rfl⟩
  obtain ⟨Q, hQ⟩ : ∃ Q, pickOf b 1000000 = Q := ⟨_, rfl⟩
  have hQb := pick_bd b
  rw [hQ] at hQb ⊢
  obtain ⟨hQ0, hQ1⟩ := hQb
  obtain ⟨y, hy⟩ : ∃ y, (1 : Int) + Q = y := ⟨_, rfl⟩
  have hyb : 1 ≤ y ∧ y ≤ 1000000 := by omega
  clear hQ
  go_wp2
  clear hx hy hP0 hP1 hQ0 hQ1
  obtain ⟨B, hB⟩ : ∃ B, w3.heap.size = B := ⟨_, rfl⟩
  have HBB := Lib.hid hB
  have hb0 : Below w.heap.size w w3 := (by repeat (first | fail | (with_reducible exact Below.refl _ _) | (with_reducible refine Below.al ?_ _) | (with_reducible refine Below.drN ?_ _) | (with_reducible refine Below.drew ?_) | (with_reducible refine Below.st ?_ ?_ _; rotate_left 1; (first | (dsimp only; omega) | omega | (simp; omega) | simp)) | (with_reducible refine Below.go ?_ hb3) | (with_reducible refine Below.go ?_ hb2) | (with_reducible refine Below.go ?_ hb1) | exact Below.refl _ _))
  clear hb1 hb2 hb3
  go_loopw [15, 16, 17] (fun va vb i wr => ∃ (t : Nat) (v1 v2 : Value), v1 = va ∧ v2 = vb ∧ t ≤ s ∧ i = .int .i64 t ∧ TwoRows wr B t x y v1 v2 ∧ Below w3.heap.size w3 wr) (fun _ _ i _ => s - (intOf i).toNat)
  case atStart => exact ⟨0, _, _, rfl, rfl, Nat.zero_le _, rfl, ⟨OwnRow.nil _ _ _ _ _, OwnRow.nil _ _ _ _ _, fun g hg => by cases hg⟩, Below.refl _ _⟩
  case round =>
    obtain ⟨t, va, vb, rfl, rfl, ht, rfl, hTR, hbr⟩ := hrel
    by_cases hlt : t < s
    · have hsz : B ≤ wr.heap.size := by rw [← HBB.out]; exact hbr.size
      go_wp2_with (at_builtin; (refine wpList_push rfl (.tmp 56) (.tmp 58) 37 rfl Form.int B noB 3 i0 (.int .i64 0) 8 Try.underlying37 hi hz0 hz1 hz2 rfl (by decide) va (List.replicate t x) rfl (hTR.a.keep ((Below.refl _ _).alloc (Nat.le_refl _) _)) wr.heap.size 1 [.int .i64 x] 3 x rfl (Box.new _ _ _) rfl (by rw [List.length_replicate]; omega) (by rw [List.length_replicate]; unfold maxLen; omega) (by simp; omega) _ rfl ?_))
      intro g cap w5 hown hgrow hlies hgs
      rw [← List.replicate_succ'] at hown
      have hvb : OwnRow Form.int 3 w5 B noB vb (List.replicate t y) := (hTR.b.keep ((Below.refl _ _).alloc (Nat.le_refl _) _)).grown hgrow (fun k hk e => hTR.apart k e.symm hk) (fun k hk => hk.elim)
      have hap : ∀ k, some g = some k → vb.ownBlock ≠ some k := fun k hk e => by
        simp only [Option.some.injEq] at hk
        subst hk
        rcases hlies with h1 | h1
        · exact hTR.apart g h1 e
        · have := (hTR.b.base_le g e).2
          omega
      have hb5 : Below w3.heap.size w3 w5 := Below.grown (Below.al hbr _) hgrow (by have := hbr.size; simp; omega) (fun k hk => by rw [HBB.out]; exact (hTR.a.base_le k hk).1)
      have hsz5 : B ≤ w5.heap.size := by rw [← HBB.out]; exact hb5.size
      have HAP := Lib.hid hap
      have HOW := Lib.hid hown
      clear hgrow hlies hgs hTR hap hown
      go_wp2_with (at_builtin; (refine wpList_push rfl (.tmp 60) (.tmp 62) 37 rfl Form.int B noB 3 i0 (.int .i64 0) 8 Try.underlying37 hi hz0 hz1 hz2 rfl (by decide) vb (List.replicate t y) rfl (hvb.keep ((Below.refl _ _).alloc (Nat.le_refl _) _)) w5.heap.size 1 [.int .i64 y] 3 y rfl (Box.new _ _ _) rfl (by rw [List.length_replicate]; omega) (by rw [List.length_replicate]; unfold maxLen; omega) (by simp; omega) _ rfl ?_))
      intro g2 cap2 w6 hown2 hgrow2 hlies2 hgs2
      rw [← List.replicate_succ'] at hown2
      have hva : OwnRow Form.int 3 w6 B noB (.slice (some ⟨g, 0, none⟩) (t + 1) cap) (List.replicate (t + 1) x) := (HOW.out.keep ((Below.refl _ _).alloc (Nat.le_refl _) _)).grown hgrow2 (fun k hk e => HAP.out k hk e.symm) (fun k hk => hk.elim)
      have hap2 : ∀ k, some g = some k → some g2 ≠ some k := fun k hk e => by
        simp only [Option.some.injEq] at hk e
        subst hk
        subst e
        rcases hlies2 with h1 | h1
        · exact HAP.out _ rfl h1
        · have := (HOW.out.base_le g2 rfl).2
          omega
      have hb6 : Below w3.heap.size w3 w6 := Below.grown (Below.al hb5 _) hgrow2 (by have := hb5.size; simp; omega) (fun k hk => by rw [HBB.out]; exact (hvb.base_le k hk).1)
      have HTR : Hid (TwoRows w6 B (t + 1) x y (.slice (some ⟨g, 0, none⟩) (t + 1) cap) (.slice (some ⟨g2, 0, none⟩) (t + 1) cap2)) := Lib.hid ⟨hva, hown2, hap2⟩
      clear hgrow2 hlies2 hgs2 hvb hva hap2 hown2 hb5
      go_wp2
      go_roundw
      case rel => exact ⟨t + 1, _, _, rfl, rfl, by omega, by go_num, HTR.out, hb6⟩
      case measure => simp [intOf]; omega
    · obtain rfl : s = t := by omega
      obtain ⟨hoa, hob, _⟩ := hTR
      obtain ⟨a1, c1, b1, rfl, _, hr1⟩ := hoa.row (G := anyB) (fun _ _ _ => trivial) (fun _ _ => trivial)
      obtain ⟨a2, c2, b2, rfl, _, hr2⟩ := hob.row (G := anyB) (fun _ _ _ => trivial) (fun _ _ => trivial)
      have hbr' : Below w3.heap.size w3 wr := hbr
      have hbw : Below w.heap.size w wr := hb0.trans (hbr'.mono hb0.size)
      have hi1 := hr1.ints
      have hi2 := hr2.ints
      replace hr := hr.keep hbr'
      replace hr' := hr'.keep hbr'
      rw [List.length_replicate] at hi1 hi2 ⊢
      rw [List.length_replicate]
      have hcx : costOk (List.replicate s x) s := fun i hi => by rw [rep_ix hi]; exact hxb
      have hcy : costOk (List.replicate s y) s := fun i hi => by rw [rep_ix hi]; exact hyb
      have hl1 : (waveOf s m).length = s := aheadOf_length _ _ _
      have hl2 : (turnsOf s m).length = s := aheadOf_length _ _ _
      obtain ⟨hx1, hx2⟩ := hxb
      obtain ⟨hy1, hy2⟩ := hyb
      obtain ⟨s1, s2⟩ := hs
      obtain ⟨m1, m2⟩ := hm
      obtain ⟨LL, hLL⟩ : ∃ LL, ((m + s - 1 : Nat) : Int) * (x + y) = LL := ⟨_, rfl⟩
      have hLb : 0 ≤ LL ∧ LL ≤ 34000000 := by
        rw [← hLL]
        constructor
        · exact Int.mul_nonneg (by omega) (by omega)
        · have h1 : ((m + s - 1 : Nat) : Int) * (x + y) ≤ 17 * (x + y) := Int.mul_le_mul_of_nonneg_right (by omega) (by omega)
          omega
      have HLL : Hid (((m : Int) + (s : Int) - 1) * (x + y) = LL) := Lib.hid (by rw [← hLL]; congr 1; omega)
      obtain ⟨MM, hMM⟩ : ∃ MM, ((s - 1 : Nat) : Int) * (x + y) = MM := ⟨_, rfl⟩
      have hMb : 0 ≤ MM ∧ MM ≤ 10000000 := by
        rw [← hMM]
        constructor
        · exact Int.mul_nonneg (by omega) (by omega)
        · have h1 : ((s - 1 : Nat) : Int) * (x + y) ≤ 5 * (x + y) := Int.mul_le_mul_of_nonneg_right (by omega) (by omega)
          omega
      have HMM : Hid (((s : Int) - 1) * (x + y) = MM) := Lib.hid (by rw [← hMM]; congr 1; omega)
      have hew := fun X hX => even_long (X := X) (planOk_of (wave_ok ⟨s1, s2⟩ ⟨m1, m2⟩)) hl1 (wave_chk ⟨s1, s2⟩ ⟨m1, m2⟩) (by omega) (by omega) (wave_last s1 m1) (th := List.replicate s x) (bk := List.replicate s y) (fun r hr => rep_ix hr) (fun r hr => rep_ix hr) hX
      have het := fun X hX => even_long (X := X) (planOk_of (turns_ok ⟨s1, s2⟩ ⟨m1, m2⟩)) hl2 (turn_chk ⟨s1, s2⟩ ⟨m1, m2⟩) (by omega) (by omega) (turn_last s1 m1) (th := List.replicate s x) (bk := List.replicate s y) (fun r hr => rep_ix hr) (fun r hr => rep_ix hr) hX
      rw [hLL, hMM] at hew het
      have HEW := Lib.hid hew
      have HET := Lib.hid het
      have HCX := Lib.hid hcx
      have HCY := Lib.hid hcy
      have HL1 := Lib.hid hl1
      have HL2 := Lib.hid hl2
      have HLB := Lib.hid hLb
      have HMB := Lib.hid hMb
      have HM2 := Lib.hid m2
      clear hr1 hr2 hoa hob hbr hb0 hbr' hew het hcx hcy hl1 hl2 hLL hMM hLb hMb
      go_wp2_with fail
      refine (clkTimes_ok (waveOf s m) (List.replicate s x) (List.replicate s y) m s a a1 a2 k p 0 c1 c2 b1 b2 0 0 anyB _ hr hi1 hi2 (wave_ok ⟨s1, s2⟩ ⟨m1, m2⟩) HCX.out HCY.out).mono ?_
      rintro e w7 ⟨a3, k3, b3, nx, X, l, rfl, hrow, hinv, hfull, hb7⟩
      have hT := HEW.out X (hinv.are (by rw [HL1.out]; exact hfull))
      have hR : RowAt Form.plan w7 anyB a3 s k3 b3 0 (rowsOf s X) := hrow
      have HT := Lib.hid hT
      replace hr' := hr'.keep hb7
      replace hi1 := hi1.keep hb7
      replace hi2 := hi2.keep hb7
      clear hrow hinv hfull hT hr
      go_wp2_with fail
      refine (clkTimes_ok (turnsOf s m) (List.replicate s x) (List.replicate s y) m s a' a1 a2 k' p' 0 c1 c2 b1 b2 0 0 anyB _ hr' hi1 hi2 (turns_ok ⟨s1, s2⟩ ⟨m1, m2⟩) HCX.out HCY.out).mono ?_
      rintro e w8 ⟨a4, k4, b4, ny, Y, l', rfl, hrow, hinv, hfull, hb8⟩
      have hA := hinv.are (by rw [HL2.out]; exact hfull)
      have hS := HET.out Y hA
      have hR' : RowAt Form.plan w8 anyB a4 s k4 b4 0 (rowsOf s Y) := hrow
      have HS := Lib.hid hS
      have HA := Lib.hid hA
      replace hR := hR.keep hb8
      clear hrow hinv hfull hS hA hr' hi1 hi2
      have hmul : wrap64 (((m : Int) + (s : Int) - 1) * (x + y)) = LL := by rw [HLL.out]; have := HLB.out; unfold wrap64; omega
      go_wp2_with fail
      refine (clkLong_any _ _ _ _ _ _ _ _ hR).mono ?_
      rintro e w9 ⟨rfl, hb9⟩
      rw [HT.out.1]
      try rw [hmul]
      clear hmul
      replace hR' := hR'.keep hb9
      go_wp2_with fail
      refine (clkLong_any _ _ _ _ _ _ _ _ hR').mono ?_
      rintro e w10 ⟨rfl, hb10⟩
      rw [HS.out.1]
      replace hR' := hR'.keep hb10
      have HBD : Hid (∀ r, r < s → ∀ i, i < (px (rowsOf s Y) r).length → (0 ≤ (ax (px (rowsOf s Y) r) i).1 ∧ (ax (px (rowsOf s Y) r) i).1 ≤ 1000000000) ∧ 0 ≤ (ax (px (rowsOf s Y) r) i).2 ∧ (ax (px (rowsOf s Y) r) i).2 ≤ 1000000000) := Lib.hid (by
        intro r hr i hi
        have h1 := HA.out.rows_bd (by rw [HL2.out]; exact HCX.out) (by rw [HL2.out]; exact HCY.out) (s := r) (by rw [HL2.out]; exact hr) (i := i) (by rw [HL2.out]; exact hi)
        rw [HL2.out, HS.out.1] at h1
        have := HLB.out
        omega)
      go_wp2_with fail
      refine (clkIdle_ok (rowsOf s Y) _ _ _ _ _ _ _ hR' s2 (fun r hr => by
        rw [rows_px hr, HA.out.len r (by rw [HL2.out]; exact hr), (planOk_of (turns_ok ⟨s1, s2⟩ ⟨m1, m2⟩)).len (by rw [HL2.out]; exact hr)]
        omega) (by rw [HS.out.1]; have := HLB.out; omega) HBD.out).mono ?_
      rintro e w11 ⟨a5, k5, b5, rfl, hid, hb11⟩
      obtain rfl := hid.ptr (by omega)
      have hbz : Below w.heap.size w w11 := (by repeat (first | fail | (with_reducible exact Below.refl _ _) | (with_reducible exact hbw) | (with_reducible refine Below.al ?_ _) | (with_reducible refine Below.drN ?_ _) | (with_reducible refine Below.drew ?_) | (with_reducible refine Below.st ?_ ?_ _; rotate_left 1; (first | (dsimp only; omega) | omega | (simp; omega) | simp)) | (with_reducible refine Below.go ?_ hb11) | (with_reducible refine Below.go ?_ hb10) | (with_reducible refine Below.go ?_ hb9) | (with_reducible refine Below.go ?_ hb8) | (with_reducible refine Below.go ?_ hb7) | exact Below.refl _ _ | exact hbw))
      have e1 : (LL != LL) = false := by simp
      have e2 : ((s : Int) != (s : Int)) = false := by simp
      clear hR hR' hb7 hb8 hb9 hb10 hb11 hbw
      go_wp2
      go_loopw [25] (fun i wr => ∃ (t nq : Nat), t ≤ s ∧ i = .int .i64 t ∧ wr = w11.drewN nq) (fun i _ => s - (intOf i).toNat)
      case atStart => exact ⟨0, 0, Nat.zero_le _, rfl, by first | rfl | exact World.drewN_drewN _ _ _⟩
      case round =>
        obtain ⟨t, nq, ht, rfl, rfl⟩ := hrel
        by_cases hlt : t < s
        · have c0 := hid.cell t hlt
          rw [HS.out.2 t hlt, Nat.zero_add] at c0
          have h0 : (0 : Int) ≤ (t : Int) := by omega
          have h1 : (t : Int) < (s : Int) := by omega
          have hmul : wrap64 (((s : Int) - 1) * (x + y)) = MM := by rw [HMM.out]; have := HMB.out; unfold wrap64; omega
          have e3 : (MM != MM) = false := by simp
          go_wp2
          go_roundw
          case rel => exact ⟨t + 1, _, by omega, by go_num, (by first | rfl | exact World.drewN_drewN _ _ _)⟩
          case measure => simp [intOf]; omega
        · obtain rfl : s = t := by omega
          go_wp2
          go_ret
          exact ⟨rfl, (by repeat (first | fail | (with_reducible exact Below.refl _ _) | (with_reducible exact hbz) | (with_reducible refine Below.al ?_ _) | (with_reducible refine Below.drN ?_ _) | (with_reducible refine Below.drew ?_) | (with_reducible refine Below.st ?_ ?_ _; rotate_left 1; (first | (dsimp only; omega) | omega | (simp; omega) | simp)) | exact Below.refl _ _ | exact hbz))⟩
theorem walk (S M f b : Int) (w : World) (hS : (Lit.int IntKind.i64 S).wf = true) (hM : (Lit.int IntKind.i64 M).wf = true) (hf : (Lit.int IntKind.i64 f).wf = true) (hb : (Lit.int IntKind.i64 b).wf = true) :
    Calls Try.prog 8 #[.int .i64 S, .int .i64 M, .int .i64 f, .int .i64 b] w fun e w' => e = .returned (.bool true) ∧ Below w.heap.size w w' := by
  simp [Lit.wf, IntKind.min, IntKind.max, IntKind.signed, IntKind.bits] at hf hb
  clear hS hM
  by_cases hg : (1 ≤ S ∧ S ≤ 6) ∧ 1 ≤ M ∧ M ≤ 12
  · obtain ⟨s, rfl⟩ : ∃ s : Nat, S = s := ⟨S.toNat, by omega⟩
    obtain ⟨m, rfl⟩ : ∃ m : Nat, M = m := ⟨M.toNat, by omega⟩
    exact walk_ok s m f b w (by omega) (by omega) hf hb
  · have HG := Lib.hid hg
    clear hg
    go_enter Try.func8, Try.ntmps8
    go_wp2_with fail
    refine (planFact_any w).mono ?_
    rintro e w1 ⟨rfl, hb1⟩
    go_wp2_with fail
    refine (planWave_bad S M _ HG.out).mono ?_
    rintro e w2 ⟨rfl, hb2⟩
    rw [errV_err (by decide)]
    go_wp2
    go_ret
    exact ⟨rfl, (by repeat (first | fail | (with_reducible exact Below.refl _ _) | (with_reducible refine Below.al ?_ _) | (with_reducible refine Below.drN ?_ _) | (with_reducible refine Below.drew ?_) | (with_reducible refine Below.st ?_ ?_ _; rotate_left 1; (first | (dsimp only; omega) | omega | (simp; omega) | simp)) | (with_reducible refine Below.go ?_ hb2) | (with_reducible refine Below.go ?_ hb1) | exact Below.refl _ _))⟩

theorem own : ownKnob Try.prog.godebug = none := by kernel_rfl
theorem laidOut : laidOutB Try.prog = true := by kernel_rfl
set_option maxRecDepth 100000 in
theorem lifted (os : Os) (started : os.Started) (H : Type) (enc : TypeId × Value → H) :
    ReturnsInHanded {} Try.checked os 8 .any (Rows.clockBubbleSpec.pre6 enc Try.prog Try.f8 Rows.clockBubbleRow.domain false) (Rows.clockBubbleSpec.post enc Try.prog Try.f8 false true false false) := by
  refine returnsInHanded_of_change (C := Try.checked) own started (by kernel_rfl) Try.func8
    (ChangeSpec.witness6 (enc := enc) (C := Try.checked) false ⟨#[], #[.int .i64 0, .int .i64 0, .int .i64 0, .int .i64 0], []⟩ 8 (by kernel_rfl) (by kernel_rfl) (by kernel_rfl) (by kernel_rfl)) ?_
  intro W base args ds gs before hval0 hW hcnd hsz
  have hval : ∀ (j : Nat) t v, Try.f8.params[j]? = some t → args[j]? = some v → Value.okWide Try.prog W .any base t v := hval0
  have hW' := hW
  obtain ⟨p, q, hA0, hV, rfl, hfz, hnd⟩ := hW
  have hA : DataW.TrodAll enc Try.prog W 0 (fun _ => true) true Try.f8.params.toList args.toList ds p := hA0
  rw [Try.params8] at hA hval
  obtain ⟨v0, vs0, d0, ds0, p0, q0, hargs, rfl, rfl, h0, r0⟩ := trodAll_cons hA
  obtain ⟨v1, vs1, d1, ds1, p1, q1, rfl, rfl, rfl, h1, r1⟩ := trodAll_cons r0
  obtain ⟨v2, vs2, d2, ds2, p2, q2, rfl, rfl, rfl, h2, r2⟩ := trodAll_cons r1
  obtain ⟨v3, vs3, d3, ds3, p3, q3, rfl, rfl, rfl, h3, r3⟩ := trodAll_cons r2
  obtain ⟨rfl, rfl, rfl⟩ := trodAll_nil r3
  obtain rfl : args = #[v0, v1, v2, v3] := by cases args; simp_all
  obtain ⟨rfl, rfl⟩ := trodVars_none hV
  have k0 := h0
  have lt0 : ∀ x ∈ p0, x.block < W.heap.size := by obtain ⟨m, hm⟩ := k0; exact DataW.trod_lt m _ _ _ hm
  have k1 := h1
  have lt1 : ∀ x ∈ p1, x.block < W.heap.size := by obtain ⟨m, hm⟩ := k1; exact DataW.trod_lt m _ _ _ hm
  have k2 := h2
  have lt2 : ∀ x ∈ p2, x.block < W.heap.size := by obtain ⟨m, hm⟩ := k2; exact DataW.trod_lt m _ _ _ hm
  have k3 := h3
  have lt3 : ∀ x ∈ p3, x.block < W.heap.size := by obtain ⟨m, hm⟩ := k3; exact DataW.trod_lt m _ _ _ hm
  obtain ⟨a0, rfl, rfl, rfl, w0⟩ := open_int Try.underlying3 (hval 0 3 v0 rfl rfl) h0
  obtain ⟨a1, rfl, rfl, rfl, w1⟩ := open_int Try.underlying3 (hval 1 3 v1 rfl rfl) h1
  obtain ⟨a2, rfl, rfl, rfl, w2⟩ := open_int Try.underlying3 (hval 2 3 v2 rfl rfl) h2
  obtain ⟨a3, rfl, rfl, rfl, w3⟩ := open_int Try.underlying3 (hval 3 3 v3 rfl rfl) h3
  clear hA0 hval0
  refine (walk a0 a1 a2 a3 W w0 w1 w2 w3).mono fun e W' ⟨he, bel⟩ => ?_
  subst he
  exact ⟨_, rfl, _, _, _, [], _, [], hW', trodAll_mk1 (shut_bool Try.underlying4 _), (trodAll_cons_mk (Below.trod laidOut (by kernel_rfl) (of_decide_eq_true (by kernel_rfl)) k0 bel lt0) (trodAll_cons_mk (Below.trod laidOut (by kernel_rfl) (of_decide_eq_true (by kernel_rfl)) k1 bel lt1) (trodAll_cons_mk (Below.trod laidOut (by kernel_rfl) (of_decide_eq_true (by kernel_rfl)) k2 bel lt2) (trodAll_cons_mk (Below.trod laidOut (by kernel_rfl) (of_decide_eq_true (by kernel_rfl)) k3 bel lt3) trodAll_mk0)))), rfl, bel.frame _, fun h => by cases h⟩

theorem proved : Rows.ClockBubbleSaid :=
  OpenClaim.holds_of_wide 8 Try.f8 rfl rfl rfl rfl rfl rfl rfl ⟨rfl, rfl, rfl, rfl, rfl⟩ rfl rfl rfl rfl rfl (by kernel_rfl) Try.func8 (by kernel_rfl)
    (of_decide_eq_true (by kernel_rfl)) (by unfold Func.isWrapper; first | (rw [if_pos (by decide +kernel)]; kernel_rfl) | (rw [if_neg (by decide +kernel)]; exact ⟨rfl, rfl⟩))
    (fun os started H enc _ => lifted os started H enc)
#print axioms proved

end Go.Proofs.Ytjaepdkeldgikaa.lawClockBubble
