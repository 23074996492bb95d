/- The reference's TimesOf, where nothing is wrong. -/
import Derived.Test.YtjaepdkeldgikaaDoorRClk2
import Derived.Test.YtjaepdkeldgikaaDoorClk4
import Derived.Deep.CutBlock
import Derived.Deep.DeepCutAuto
import Derived.Deep.LoopGhost
import Derived.BigQuiet
set_option linter.unusedVariables false
set_option linter.unusedSimpArgs false
set_option linter.unusedSectionVars false
set_option maxRecDepth 100000
namespace Go.Proofs.YtjaepdkeldgikaaDoor
open Go.RowKit Gal Go.Maps
set_option maxHeartbeats 8000000
structure TAt (p : PlanD) (th bk : List Int) (X : Nat → List SpanD) (w wr : World) (b n L : Nat) (gs : Nat → Nat) (W : Nat → List SpanD) : Prop where
  out : OutB wr w.heap.size b n L gs W
  inv : TInv p th bk X W
  below : Below w.heap.size w wr
theorem TAt.keep {p : PlanD} {th bk : List Int} {X : Nat → List SpanD} {w wr w' : World} {b n L : Nat} {gs : Nat → Nat} {W : Nat → List SpanD} (h : TAt p th bk X w wr b n L gs W) (hb : Below wr.heap.size wr w') : TAt p th bk X w w' b n L gs W :=
  ⟨h.out.keep hb, h.inv, h.below.trans (hb.mono h.below.size)⟩
theorem refTimesOf_ok (p : PlanD) (th bk : List Int) (X : Nat → List SpanD) (m n : Nat) (a ta ba : Option Addr) (k b o kt kb bt bb ot ob : Nat) (F : Nat → Prop) (w : World) (h : RowAt Form.plan w F a n k b o p) (ht : IntsAt w ta n kt bt ot th) (hb : IntsAt w ba n kb bb ob bk)
    (hf : planFault m p = 0) (hth : costOk th n) (hbk : costOk bk n) (hX : TimesAre p th bk X) (hXb : ∀ s, s < n → ∀ i, i < 2 * m → (ax (X s) i).2 ≤ 1000000000) :
    Calls Tryd.prog 30 #[.slice a n k, .slice ta n kt, .slice ba n kb] w fun e w' => ∃ cap b2, e = .returned (.slice (some ⟨b2, 0, none⟩) n cap) ∧ RowAt Form.plan w' anyB (some ⟨b2, 0, none⟩) n cap b2 0 (rowsOf n X) ∧ Below w.heap.size w w' := by
  have HL := Lib.hid h.len
  have hok := planOk_of hf
  obtain ⟨⟨m1, m12⟩, n1, n6⟩ := hok.few
  rw [HL.out] at n1 n6
  obtain ⟨L, hL⟩ : ∃ L, 2 * m = L := ⟨_, rfl⟩
  rw [hL] at hXb
  have HLEN : Hid (∀ s, s < n → (px p s).length = L) := Lib.hid fun s hs => by rw [hok.len (by rw [HL.out]; exact hs), hL]
  have L1 : 1 ≤ L := by omega
  have L24 : L ≤ 24 := by omega
  have HOK := Lib.hid hok
  have HTH := Lib.hid hth
  have HBK := Lib.hid hbk
  have HXT := Lib.hid hX
  have HXB := Lib.hid hXb
  have hP := h
  have hTH := ht
  have hBK := hb
  obtain rfl := h.ptr (by omega)
  obtain rfl := ht.ptr (by omega)
  obtain rfl := hb.ptr (by omega)
  obtain ⟨i0, hi, hz0, hz1, hz2⟩ := info_parts info_span
  obtain ⟨j0, hj, hy0, hy1, hy2⟩ := info_parts info_spans
  have hmk := fun W => run_make_rowN (P := Tryd.prog) 63 65 i0 _ Tryd.underlying63 hi hz0 .i64 .i64 L L (L : Int) (L : Int) rfl rfl (Nat.le_refl _) (by rw [hz2]; omega) (by omega) W
  rw [hz1, made_pairs] at hmk
  obtain ⟨ZZ, hZZ⟩ : ∃ ZZ, (List.replicate (L * 2) (Value.int .i64 0)).toArray = ZZ := ⟨_, rfl⟩
  rw [hZZ] at hmk
  have HZZ := Lib.hid hZZ
  clear hZZ
  clear h ht hb hf hok hth hbk hX hXb hL m1 m12 hi hz0 hz1 hz2
  go_enter Tryd.func30, Tryd.ntmps30
  go_wp2
  go_loopw [7, 8] (fun v i wr => ∃ (t : Nat) (hs : List RowD) (v0 : Value), v0 = v ∧ t ≤ n ∧ i = .int .i64 t ∧ Hid (hs.length = t ∧ (∀ y ∈ hs, y.2 = List.replicate L ((0 : Int), (0 : Int)) ∧ y.1.2 = L) ∧ Rising hs ∧ ∀ y ∈ hs, w.heap.size ≤ y.1.1 ∧ y.1.1 < wr.heap.size) ∧ OwnRow Form.hdr 63 wr w.heap.size (newB w.heap.size) v0 hs ∧ Below w.heap.size w wr) (fun _ i _ => n - (intOf i).toNat)
  case atStart => exact ⟨0, [], _, rfl, Nat.zero_le _, rfl, Lib.hid ⟨rfl, fun y hy => absurd hy List.not_mem_nil, List.Pairwise.nil, fun y hy => absurd hy List.not_mem_nil⟩, OwnRow.nil _ _ _ _ _, (by repeat (first | fail | (with_reducible exact Below.refl _ _) | (with_reducible refine Below.al ?_ _) | (with_reducible refine Below.drN ?_ _) | (with_reducible refine Below.drew ?_) | (with_reducible refine Below.st ?_ ?_ _; rotate_left 1; (first | (dsimp only; omega) | omega | (simp; omega) | simp)) | exact Below.refl _ _))⟩
  case round =>
    obtain ⟨t, hs, vo, rfl, htn, rfl, hfc, hout, hbr⟩ := hrel
    by_cases hlt : t < n
    · obtain ⟨a1, n1', k1', b1, o1, c0, hr1⟩ := plan_cell (hP.keep hbr) hlt
      obtain rfl : L = n1' := by rw [← hr1.len]; exact (HLEN.out t hlt).symm
      have HHL : Hid (hs.length = t) := Lib.hid hfc.out.1
      have hhl : hs.length ≤ 6 := by have := hfc.out.1; omega
      obtain ⟨bv, hbv⟩ : ∃ bv, wr.heap.size = bv := ⟨_, rfl⟩
      have hvo := hout.base_le
      have hyr : Form.hdr.reads ((wr.alloc (.cells ZZ 65)).alloc (.cells #[.slice (some ⟨bv, 0, none⟩) L L] 63)) (fun b => newB w.heap.size b ∧ vo.ownBlock ≠ some b) [.slice (some ⟨bv, 0, none⟩) L L] ((bv, L), List.replicate L ((0 : Int), (0 : Int))) := by
        have hbx : Box (wr.alloc (.cells ZZ 65)) bv (List.replicate (L * 2) (Value.int .i64 0)) 65 := by rw [← HZZ.out]; exact Box.new' _ _ _ _ hbv.symm
        have h1 := (row_zeros (F := fun b => newB w.heap.size b ∧ vo.ownBlock ≠ some b) (L := L) (by unfold maxLen; omega) ⟨by show w.heap.size ≤ bv; rw [← hbv]; exact hbr.size, fun e => by have := (hvo bv e).2; omega⟩ hbx).alloc (.cells #[.slice (some ⟨bv, 0, none⟩) L L] 63)
        refine ⟨by simp, ?_, fun _ => ⟨_, _, (hbx.alloc _)⟩⟩
        dsimp only
        rw [List.length_replicate]
        exact h1
      have hout2 := (hout.keep (w' := wr.alloc (.cells ZZ 65)) (by repeat (first | fail | (with_reducible exact Below.refl _ _) | (with_reducible refine Below.al ?_ _) | (with_reducible refine Below.drN ?_ _) | (with_reducible refine Below.drew ?_) | (with_reducible refine Below.st ?_ ?_ _; rotate_left 1; (first | (dsimp only; omega) | omega | (simp; omega) | simp)) | exact Below.refl _ _)))
      have HBV := Lib.hid hbv
      clear hr1 hout hvo
      go_wp2_with (at_builtin; go_must (refine wpList_push rfl (.tmp 24) (.tmp 31) 57 rfl Form.hdr w.heap.size (newB w.heap.size) 63 j0 (.slice none 0 0) 24 Tryd.underlying57 hj hy0 hy1 hy2 rfl (by decide) _ hs rfl (hout2.keep ((Below.refl _ _).alloc (Nat.le_refl _) _)) (bv + 1) 1 [.slice (some ⟨bv, 0, none⟩) L L] 63 ((bv, L), List.replicate L ((0 : Int), (0 : Int))) rfl (Box.new' _ _ _ _ (by have := HBV.out; simp; omega)) hyr (by omega) (by unfold maxLen; omega) (by have := hbr.size; simp; omega) _ rfl ?_))
      intro g cap w' hown' hgrow hlies hgs
      have hbW : Below w.heap.size w w' := Below.grown (Below.al (Below.al hbr _) _) hgrow (by have := hbr.size; simp; omega) (fun k hk => (hout2.base_le k hk).1)
      have HNX : Hid ((hs ++ [((bv, L), List.replicate L ((0 : Int), (0 : Int)))]).length = t + 1 ∧ (∀ y ∈ hs ++ [((bv, L), List.replicate L ((0 : Int), (0 : Int)))], y.2 = List.replicate L ((0 : Int), (0 : Int)) ∧ y.1.2 = L) ∧ Rising (hs ++ [((bv, L), List.replicate L ((0 : Int), (0 : Int)))]) ∧ ∀ y ∈ hs ++ [((bv, L), List.replicate L ((0 : Int), (0 : Int)))], w.heap.size ≤ y.1.1 ∧ y.1.1 < w'.heap.size) := Lib.hid (by
        obtain ⟨f1, f2, f3, f4⟩ := hfc.out
        have hsz := hgrow.size
        have hb0 := HBV.out
        have hbs := hbr.size
        simp at hsz
        refine ⟨by rw [List.length_append, f1]; rfl, fun y hy => ?_, rising_snoc f3 fun y hy => ?_, fun y hy => ?_⟩
        · rcases List.mem_append.1 hy with h1 | h1
          · exact f2 y h1
          · rw [List.mem_singleton.1 h1]; exact ⟨rfl, rfl⟩
        · have := (f4 y hy).2
          show y.1.1 < bv
          omega
        · rcases List.mem_append.1 hy with h1 | h1
          · have := f4 y h1; omega
          · rw [List.mem_singleton.1 h1]; dsimp only; omega)
      have HOW := Lib.hid hown'
      clear hown' hgrow hlies hgs hyr hout2 hbv
      go_wp2
      go_roundw
      case rel => exact ⟨t + 1, _, _, rfl, hlt, by go_num, HNX.out, HOW.out, hbW⟩
      case measure => simp [intOf]; omega
    · obtain rfl : n = t := by omega
      obtain ⟨f1, f2, f3, f4⟩ := hfc.out
      have hap := hdr_apart hout
      obtain ⟨ah, cap, bh, hv, hbb, hrow⟩ := hout.row (G := anyB) (fun _ _ _ => trivial) (fun _ _ => trivial)
      rw [f1] at hv hbb hrow
      obtain rfl := hrow.ptr n1
      have hbb' := hbb n1
      obtain ⟨gs, hO⟩ := outB_of (base := w.heap.size) (L := L) hrow f3 f2 (fun y hy => ⟨(f4 y hy).1, fun e => by
        have h1 := (hap y hy (by rw [(f2 y hy).1, List.length_replicate]; omega)).1
        rw [hv] at h1
        exact h1 (by rw [e]; rfl)⟩) hbb' n1 L1
      have hinv := TInv.start HXT.out (by rw [HL.out]; exact HTH.out) (by rw [HL.out]; exact HBK.out) (L := L) (by rw [HL.out]; exact HLEN.out)
      have hcap := hrow.le
      have hcm := hrow.maxc
      subst hv
      have hT : TAt p th bk X w wr bh n L gs fun _ => List.replicate L ((0 : Int), (0 : Int)) := ⟨hO, hinv, hbr⟩
      obtain ⟨W0, hW0⟩ : ∃ W0 : Nat → List SpanD, (fun _ => List.replicate L ((0 : Int), (0 : Int))) = W0 := ⟨_, rfl⟩
      rw [hW0] at hT
      obtain ⟨G0, hG0⟩ : ∃ G0, gapW X W0 n L = G0 := ⟨_, rfl⟩
      have HG0 := Lib.hid hG0
      have HCAP : Hid (n ≤ cap ∧ cap ≤ maxLen) := Lib.hid ⟨hcap, hcm⟩
      clear hap hbb hrow f1 f2 f3 f4 hO hinv hbr hout hfc hbb' hcap hcm hW0 hG0 hmk hj hy0 hy1 hy2
      go_wp2
      go_loopg [9] (2 * G0 + 1) (fun gk mo wr => ∃ (more : Bool) (W : Nat → List SpanD), mo = .bool more ∧ TAt p th bk X w wr bh n L gs W ∧ gk = 2 * gapW X W n L + more.toNat ∧ Hid (more = false → ∀ r, r < n → ∀ j, j < L → ax (W r) j = spW p th bk W r j))
      case atStart => exact ⟨true, W0, rfl, hT, by rw [HG0.out]; rfl, Lib.hid fun h => by cases h⟩
      case round =>
        clear hT
        obtain ⟨more, W, rfl, hT, hgk, hno⟩ := hrel
        cases more with
        | true =>
          obtain ⟨G, hG⟩ : ∃ G, gapW X W n L = G := ⟨_, rfl⟩
          rw [hG] at hgk
          have HG := Lib.hid hG
          clear hG hno
          go_wp2
          go_loopw [9, 10] (fun mo i wr => ∃ (more : Bool) (t : Nat) (V : Nat → List SpanD), mo = .bool more ∧ i = .int .i64 t ∧ t ≤ n ∧ TAt p th bk X w wr bh n L gs V ∧ Hid (gapW X V n L ≤ G ∧ (more = true → gapW X V n L < G)) ∧ Hid (more = false → ∀ r, r < t → ∀ j, j < L → ax (V r) j = spW p th bk V r j)) (fun _ i _ => n - (intOf i).toNat)
          case atStart => exact ⟨false, 0, W, rfl, rfl, Nat.zero_le _, hT, Lib.hid ⟨by rw [HG.out]; exact Nat.le_refl _, fun h => by cases h⟩, Lib.hid fun _ r hr => absurd hr (Nat.not_lt_zero _)⟩
          case round =>
            clear hT
            obtain ⟨more, t, V, rfl, rfl, htn, hT, hgp, hno⟩ := hrel
            by_cases hlt : t < n
            · obtain ⟨a1, n1', k1', b1, o1, c0, hr1⟩ := plan_cell (hP.keep hT.below) hlt
              obtain rfl : L = n1' := by rw [← hr1.len]; exact (HLEN.out t hlt).symm
              clear hr1
              go_wp2
              go_loopw [9, 11] (fun mo i wr => ∃ (more : Bool) (y : Nat) (V : Nat → List SpanD), mo = .bool more ∧ i = .int .i64 y ∧ y ≤ L ∧ TAt p th bk X w wr bh n L gs V ∧ Hid (gapW X V n L ≤ G ∧ (more = true → gapW X V n L < G)) ∧ Hid (more = false → (∀ r, r < t → ∀ j, j < L → ax (V r) j = spW p th bk V r j) ∧ ∀ j, j < y → ax (V t) j = spW p th bk V t j)) (fun _ i _ => L - (intOf i).toNat)
              case atStart => exact ⟨more, 0, V, rfl, rfl, Nat.zero_le _, hT, hgp, Lib.hid fun h => ⟨hno.out h, fun j hj => absurd hj (Nat.not_lt_zero _)⟩⟩
              case round =>
                clear hT hgp hno c0
                obtain ⟨more, y, V, rfl, rfl, hyn, hT, hgp, hno⟩ := hrel
                by_cases hyl : y < L
                · skip
                  obtain ⟨a1, n1', k1', b1, o1, c0, hr1⟩ := plan_cell (hP.keep hT.below) hlt
                  obtain rfl : L = n1' := by rw [← hr1.len]; exact (HLEN.out t hlt).symm
                  obtain rfl := hr1.ptr (by omega)
                  obtain ⟨d0, d1⟩ := act_cells hr1 hyl
                  obtain ⟨⟨x0, x1⟩, hx⟩ : ∃ x, ax (px p t) y = x := ⟨_, rfl⟩
                  rw [hx] at d0 d1
                  dsimp only at d0 d1
                  have HX := Lib.hid hx
                  obtain ⟨wa, hwa⟩ : ∃ wa, wr.alloc (.cells #[.int .i64 x0, .int .i64 x1] 73) = wa := ⟨_, rfl⟩
                  have hba : Below wr.heap.size wr wa := by rw [← hwa]; exact (by repeat (first | fail | (with_reducible exact Below.refl _ _) | (with_reducible refine Below.al ?_ _) | (with_reducible refine Below.drN ?_ _) | (with_reducible refine Below.drew ?_) | (with_reducible refine Below.st ?_ ?_ _; rotate_left 1; (first | (dsimp only; omega) | omega | (simp; omega) | simp)) | exact Below.refl _ _))
                  have bxa : Box wa wr.heap.size [.int .i64 x0, .int .i64 x1] 73 := by rw [← hwa]; exact Box.new' _ _ [.int .i64 x0, .int .i64 x1] _ rfl
                  have hTa := hT.keep hba
                  have HWA := Lib.hid hwa
                  obtain ⟨P, hP0⟩ : ∃ P, prevTo (V t) y = P := ⟨_, rfl⟩
                  obtain ⟨D, hD0⟩ : ∃ D, depW p V t (x0, x1) = D := ⟨_, rfl⟩
                  obtain ⟨LL, hLL⟩ : ∃ LL, longOf th bk t (x0, x1) = LL := ⟨_, rfl⟩
                  obtain ⟨FR, hFR⟩ : ∃ FR, max P D = FR := ⟨_, rfl⟩
                  have hnn := hT.inv.fr_nn (i := y) (s := t) (by rw [HL.out]; exact hlt)
                  rw [hx, hP0, hD0] at hnn
                  have hsp : spW p th bk V t y = (FR, FR + LL) := by
                    unfold spW frW
                    rw [hx, hP0, hD0, hLL, hFR]
                  have hFle : FR + LL ≤ 1000000000 := by
                    have h1 := fr_mono (hT.inv.le' HXT.out) (i := y) (s := t) (by rw [HL.out]; exact hlt)
                    have h2 := HXB.out t hlt y hyl
                    rw [HXT.out.at HOK.out (by rw [HL.out]; exact hlt) (by rw [HLEN.out t hlt]; exact hyl)] at h2
                    unfold spW at h2
                    dsimp only at h2
                    rw [hx, hLL] at h2
                    have h3 : frW p V t y = FR := by unfold frW; rw [hx, hP0, hD0, hFR]
                    omega
                  have hLb := longOf_ok (s := t) (p := p) (by rw [HL.out]; exact HTH.out) (by rw [HL.out]; exact HBK.out) (by rw [HL.out]; exact hlt) (x0, x1)
                  rw [hLL] at hLb
                  have HP0 := Lib.hid hP0
                  have HD0 := Lib.hid hD0
                  have HSP := Lib.hid hsp
                  obtain ⟨P0, D0, _⟩ := hnn
                  obtain ⟨LL0, LL1⟩ := hLb
                  have cO := hTa.out.hd t hlt
                  have cth := (hTH.keep hTa.below).cell t hlt
                  have cbk := (hBK.keep hTa.below).cell t hlt
                  have s0 : (0 : Int) ≤ (t : Int) := by omega
                  have s1 : (t : Int) < (n : Int) := by omega
                  have i0 : (0 : Int) ≤ (y : Int) := by omega
                  have i1 : (y : Int) < (L : Int) := by omega
                  have HLL : Hid ((x0 = 2 → ix bk t = LL) ∧ (¬ x0 = 2 → ix th t = LL)) := Lib.hid (by
                    rw [← hLL]
                    unfold longOf
                    exact ⟨fun h => by rw [if_pos h], fun h => by rw [if_neg h]⟩)
                  have ba0 := bxa.cell 0
                  have ba1 := bxa.cell 1
                  have hPa := hP.keep hTa.below
                  clear hx hwa hP0 hD0 hLL hsp
                  go_upto_if 57 with (fail)
                  rw [HWA.out]
                  go_cut [13] (fun s13 wx => s13 = .int .i64 P ∧ wx = wa)
                  case first =>
                    rcases Nat.eq_zero_or_pos y with hy0 | hy0
                    · subst hy0
                      have hp0 : P = 0 := by rw [← HP0.out]; unfold prevTo; rw [if_pos rfl]
                      go_wp2_with fail
                      go_meet
                      exact ⟨by rw [hp0], rfl⟩
                    · obtain ⟨z, rfl⟩ : ∃ z, y = z + 1 := ⟨y - 1, by omega⟩
                      have hzy : ((z + 1 : Nat) : Int) - 1 = (z : Int) := by omega
                      have hzL : z < L := by omega
                      obtain ⟨_, g1⟩ := hTa.out.cells hlt hzL
                      have hp0 : (ax (V t) z).2 = P := by rw [← HP0.out]; unfold prevTo; rw [if_neg (by omega), Nat.add_sub_cancel]
                      rw [hp0] at g1
                      clear hp0 hy0
                      go_wp2_with fail
                      go_meet
                      exact ⟨rfl, rfl⟩
                  case rest =>
                    obtain ⟨rfl, rfl⟩ := hcut
                    obtain ⟨KK, hKK⟩ : ∃ KK, besideOf t (x0, x1) = KK := ⟨_, rfl⟩
                    have HKK := Lib.hid hKK
                    clear hKK
                    go_upto_if 75 with (fail)
                    go_cut [14, 15] (fun s14 s15 wx => s14 = .int .i64 LL ∧ s15 = .int .i64 KK ∧ wx = wc)
                    case first =>
                      by_cases hk : x0 = 2
                      · have e1 : (x0 == 2) = true := by simp [hk]
                        rw [HLL.out.1 hk] at cbk
                        have hkk : (t : Int) + 1 = KK := by rw [← HKK.out]; unfold besideOf; rw [if_pos hk]
                        have HK := Lib.hid hkk
                        clear hk hkk
                        go_wp2_with fail
                        go_meet
                        exact ⟨rfl, by rw [HK.out], rfl⟩
                      · have e1 : (x0 == 2) = false := by simp [hk]
                        have HLt := Lib.hid (HLL.out.2 hk)
                        have hkk : (t : Int) - 1 = KK := by rw [← HKK.out]; unfold besideOf; rw [if_neg hk]
                        have HK := Lib.hid hkk
                        clear hk hkk
                        go_wp2_with fail
                        go_meet
                        exact ⟨by rw [HLt.out], by rw [HK.out], rfl⟩
                    case rest =>
                      obtain ⟨rfl, rfl, rfl⟩ := hcut
                      obtain ⟨wa, hwa⟩ : ∃ wa, wa = wc := ⟨_, rfl⟩
                      subst hwa
                      have HCASE : Hid (((KK < 0 ∨ (n : Int) ≤ KK) ∧ D = 0) ∨ ∃ kk j : Nat, KK = kk ∧ kk < n ∧ whereOf (px p kk) (x0, x1) = j ∧ j < L ∧ (ax (V kk) j).2 = D) := Lib.hid (by
                        rw [← HKK.out, ← HD0.out]
                        unfold besideOf depW
                        have hat := fun r hr => HOK.out.at (s := t) (r := r) (i := y) (by rw [HL.out]; exact hlt) (by rw [HL.out]; exact hr) (by rw [HLEN.out t hlt]; exact hyl)
                        rw [HX.out] at hat
                        by_cases hk : x0 = 2
                        · simp only [if_pos hk]
                          by_cases e : t + 1 = p.length
                          · left
                            rw [if_pos e]
                            rw [HL.out] at e
                            exact ⟨Or.inr (by omega), rfl⟩
                          · right
                            rw [if_neg e]
                            rw [HL.out] at e
                            obtain ⟨j, h1, h2⟩ := hat (t + 1) (by omega)
                            refine ⟨t + 1, j, by omega, by omega, h1, ?_, by rw [h1, Int.toNat_natCast]⟩
                            have := h2.1
                            rw [HLEN.out _ (by omega)] at this
                            exact this
                        · simp only [if_neg hk]
                          by_cases e : t = 0
                          · left
                            rw [if_pos e]
                            exact ⟨Or.inl (by omega), rfl⟩
                          · right
                            rw [if_neg e]
                            obtain ⟨j, h1, h2⟩ := hat (t - 1) (by omega)
                            refine ⟨t - 1, j, by omega, by omega, h1, ?_, by rw [h1, Int.toNat_natCast]⟩
                            have := h2.1
                            rw [HLEN.out _ (by omega)] at this
                            exact this)
                      have HFR := Lib.hid hFR
                      clear hFR ba0 ba1 cth cbk d0 d1
                      have ba0 := bxa.cell 0
                      have ba1 := bxa.cell 1
                      go_upto_region 24 with (fail)
                      go_cut [89] (fun s89 wx => ∃ d : Bool, s89 = .bool d ∧ Hid (d = true ↔ (0 ≤ KK ∧ KK < (n : Int))) ∧ wx = wa)
                      case first =>
                        by_cases h1 : 0 ≤ KK
                        · have e1 : (KK ≥ 0) = True := by simp; omega
                          have HH : Hid (decide (KK < (n : Int)) = true ↔ (0 ≤ KK ∧ KK < (n : Int))) := Lib.hid (by rw [decide_eq_true_eq]; exact ⟨fun h2 => ⟨h1, h2⟩, fun h2 => h2.2⟩)
                          clear h1
                          go_wp2_with fail
                          go_meet
                          exact ⟨_, rfl, HH, rfl⟩
                        · have e1 : (KK ≥ 0) = False := by simp; omega
                          have HH : Hid (false = true ↔ (0 ≤ KK ∧ KK < (n : Int))) := Lib.hid ⟨fun h2 => (by cases h2), fun h2 => absurd h2.1 h1⟩
                          clear h1
                          go_wp2_with fail
                          go_meet
                          exact ⟨_, rfl, HH, rfl⟩
                      case rest =>
                        obtain ⟨d, rfl, hd, hwc⟩ := hcut
                        subst hwc
                        obtain ⟨wa, hwa⟩ : ∃ wa, wa = wc := ⟨_, rfl⟩
                        subst hwa
                        go_upto_if 89 with (fail)
                        go_cut [13] (fun s13 wx => s13 = .int .i64 FR ∧ ∃ q, wx = wa.drewN q)
                        case first =>
                          cases d with
                          | false =>
                            have HP2 : Hid (P = FR) := Lib.hid (by
                              rw [← HFR.out]
                              rcases HCASE.out with ⟨_, h2⟩ | ⟨kk, j, rfl, h2, _⟩
                              · omega
                              · have := hd.out.2 ⟨by omega, by omega⟩
                                cases this)
                            go_wp2_with fail
                            go_meet
                            exact ⟨by rw [HP2.out], 0, rfl⟩
                          | true =>
                            obtain ⟨kk, j, hkk, hkn, hw, hjL, hD⟩ : ∃ kk j : Nat, KK = kk ∧ kk < n ∧ whereOf (px p kk) (x0, x1) = j ∧ j < L ∧ (ax (V kk) j).2 = D := by
                              rcases HCASE.out with ⟨h1, _⟩ | h1
                              · have := hd.out.1 rfl
                                omega
                              · exact h1
                            subst hkk
                            obtain ⟨a6, n6', k6, b6, o6, c6, hr6⟩ := plan_cell hPa hkn
                            have c7 := hTa.out.hd kk hkn
                            obtain ⟨_, g1⟩ := hTa.out.cells hkn hjL
                            rw [hD] at g1
                            have k0 : (0 : Int) ≤ (kk : Int) := by omega
                            have k1 : (kk : Int) < (n : Int) := by omega
                            have j0 : (0 : Int) ≤ (j : Int) := by omega
                            have j1 : (j : Int) < (L : Int) := by omega
                            by_cases hm : D > P
                            · have HP2 : Hid (D = FR) := Lib.hid (by rw [← HFR.out]; omega)
                              have e1 : (D > P) = True := by simp; omega
                              clear hD hm
                              go_wp2_with fail
                              go_quiet ((go_at_call 43; first | exact quietw0 hr6 | exact quietw1 hr6))
                              rw [hw]
                              go_wp2_with fail
                              go_meet
                              exact ⟨by rw [HP2.out], _, rfl⟩
                            · have HP2 : Hid (P = FR) := Lib.hid (by rw [← HFR.out]; omega)
                              have e1 : (D > P) = False := by simp; omega
                              clear hD hm
                              go_wp2_with fail
                              go_quiet ((go_at_call 43; first | exact quietw0 hr6 | exact quietw1 hr6))
                              rw [hw]
                              go_wp2_with fail
                              go_meet
                              exact ⟨by rw [HP2.out], _, rfl⟩
                        case rest =>
                          obtain ⟨rfl, q, hq⟩ := hcut
                          obtain ⟨⟨c1, c2⟩, hc⟩ : ∃ x, ax (V t) y = x := ⟨_, rfl⟩
                          have hTb : TAt p th bk X w wc bh n L gs V := by rw [hq]; exact hTa.keep (by repeat (first | fail | (with_reducible exact Below.refl _ _) | (with_reducible refine Below.al ?_ _) | (with_reducible refine Below.drN ?_ _) | (with_reducible refine Below.drew ?_) | (with_reducible refine Below.st ?_ ?_ _; rotate_left 1; (first | (dsimp only; omega) | omega | (simp; omega) | simp)) | exact Below.refl _ _))
                          obtain ⟨wb, hwb⟩ : ∃ wb, wc.alloc (.cells #[.int .i64 FR, .int .i64 (FR + LL)] 65) = wb := ⟨_, rfl⟩
                          have hbb : Below wc.heap.size wc wb := by rw [← hwb]; exact (by repeat (first | fail | (with_reducible exact Below.refl _ _) | (with_reducible refine Below.al ?_ _) | (with_reducible refine Below.drN ?_ _) | (with_reducible refine Below.drew ?_) | (with_reducible refine Below.st ?_ ?_ _; rotate_left 1; (first | (dsimp only; omega) | omega | (simp; omega) | simp)) | exact Below.refl _ _))
                          have bxb : Box wb wc.heap.size [.int .i64 FR, .int .i64 (FR + LL)] 65 := by rw [← hwb]; exact Box.new' _ _ [.int .i64 FR, .int .i64 (FR + LL)] _ rfl
                          have hTc := hTb.keep hbb
                          have HWB := Lib.hid hwb
                          have g0 := hTc.out.hd t hlt
                          obtain ⟨g1, g2⟩ := hTc.out.cells hlt hyl
                          rw [hc] at g1 g2
                          dsimp only at g1 g2
                          have bb0 := bxb.cell 0
                          have bb1 := bxb.cell 1
                          have hgl := hTc.out.gs_lt hlt
                          have hFR0 : 0 ≤ FR := by have := HFR.out; omega
                          have hFL : -9223372036854775808 ≤ FR + LL ∧ FR + LL ≤ 9223372036854775807 := by omega
                          have HC := Lib.hid hc
                          clear hc hwb hq hTa hTb bxa ba0 ba1 cO hba hPa
                          by_cases heq : c1 = FR ∧ c2 = FR + LL
                          · obtain ⟨rfl, rfl⟩ := heq
                            have HNO : Hid (more = false → (∀ r, r < t → ∀ j, j < L → ax (V r) j = spW p th bk V r j) ∧ ∀ j, j < y + 1 → ax (V t) j = spW p th bk V t j) := Lib.hid fun hm => ⟨(hno.out hm).1, fun j hj => by
                              rcases Nat.lt_or_ge j y with h1 | h1
                              · exact (hno.out hm).2 j h1
                              · obtain rfl : j = y := by omega
                                rw [HC.out, HSP.out]⟩
                            have heqv : ∀ W : World, (binOp .neq 65 (.agg #[.int .i64 c1, .int .i64 (c1 + LL)]) (.agg #[.int .i64 c1, .int .i64 (c1 + LL)])).run Tryd.prog W = .ok (.bool false) W := fun W => by rw [span_neq]; simp
                            go_wp2
                            rw [HWB.out]
                            go_quiet (fail)
                            go_wp2
                            go_roundw
                            case rel => exact ⟨more, y + 1, V, rfl, by go_num, hyl, hTc.keep (by repeat (first | fail | (with_reducible exact Below.refl _ _) | (with_reducible refine Below.al ?_ _) | (with_reducible refine Below.drN ?_ _) | (with_reducible refine Below.drew ?_) | (with_reducible refine Below.st ?_ ?_ _; rotate_left 1; (first | (dsimp only; omega) | omega | (simp; omega) | simp)) | exact Below.refl _ _)), hgp, HNO⟩
                            case measure => simp [intOf]; omega
                          · have heqv : ∀ W : World, (binOp .neq 65 (.agg #[.int .i64 c1, .int .i64 c2]) (.agg #[.int .i64 FR, .int .i64 (FR + LL)])).run Tryd.prog W = .ok (.bool true) W := fun W => by
                              rw [span_neq]
                              by_cases q0 : c1 = FR
                              · have q1 : ¬ c2 = FR + LL := fun q1 => heq ⟨q0, q1⟩
                                simp [q0, q1]
                              · simp [q0]
                            have hst := hT.inv.step HOK.out HXT.out (by rw [HL.out]; exact HTH.out) (by rw [HL.out]; exact HBK.out) (s := t) (i := y) (by rw [HL.out]; exact hlt) (by rw [HLEN.out t hlt]; exact hyl) (by
                              rw [HC.out, HSP.out]
                              intro h1
                              have h2 := congrArg Prod.fst h1
                              have h3 := congrArg Prod.snd h1
                              exact heq ⟨h2, h3⟩)
                            rw [HSP.out] at hst
                            have hgs := gap_step (X := X) (W := V) (n := n) (L := L) (s := t) (i := y) (x := (FR, FR + LL)) hlt hyl (by rw [hT.inv.len t (by rw [HL.out]; exact hlt), HLEN.out t hlt]; exact hyl) hst.2.1 hst.2.2
                            have HST := Lib.hid hst.1
                            have HGP : Hid (gapW X (setW V t y (FR, FR + LL)) n L ≤ G ∧ gapW X (setW V t y (FR, FR + LL)) n L < G) := Lib.hid (by have := hgp.out.1; omega)
                            have fr : ∀ i, wb.frozen? ⟨gs t, i, none⟩ = false := fun i => hTc.out.thaw hlt i
                            clear hst hgs heq
                            go_wp2
                            rw [HWB.out]
                            go_quiet (fail)
                            go_wp2
                            go_region
                            all_goals
                              have hput := (hTc.out.drewN (nq + 1)).put hlt hyl (FR, FR + LL)
                              dsimp only at hput
                              have hlow := hTc.out.low.2 t hlt
                              have hbz : Below w.heap.size w (((wb.drewN (nq + 1)).setCell ⟨gs t, y * 2, none⟩ (.int .i64 FR)).setCell ⟨gs t, y * 2 + 1, none⟩ (.int .i64 (FR + LL))) := ((hTc.below.trans (((by repeat (first | fail | (with_reducible exact Below.refl _ _) | (with_reducible refine Below.al ?_ _) | (with_reducible refine Below.drN ?_ _) | (with_reducible refine Below.drew ?_) | (with_reducible refine Below.st ?_ ?_ _; rotate_left 1; (first | (dsimp only; omega) | omega | (simp; omega) | simp)) | exact Below.refl _ _)) : Below wb.heap.size wb (wb.drewN (nq + 1))).mono hTc.below.size)).setCell hlow _).setCell hlow _
                              have hTz : TAt p th bk X w (((wb.drewN (nq + 1)).setCell ⟨gs t, y * 2, none⟩ (.int .i64 FR)).setCell ⟨gs t, y * 2 + 1, none⟩ (.int .i64 (FR + LL))) bh n L gs (setW V t y (FR, FR + LL)) := ⟨hput, HST.out, hbz⟩
                              have HTZ := Lib.hid hTz
                              clear hput hbz hTz fr heqv
                              go_wp2
                              go_roundw
                              case rel => exact ⟨true, y + 1, setW V t y (FR, FR + LL), rfl, by go_num, hyl, HTZ.out, Lib.hid ⟨HGP.out.1, fun _ => HGP.out.2⟩, Lib.hid fun h => by cases h⟩
                              case measure => simp [intOf]; omega
                · obtain rfl : L = y := by omega
                  obtain ⟨a1, n1', k1', b1, o1, c0, hr1⟩ := plan_cell (hP.keep hT.below) hlt
                  obtain rfl : L = n1' := by rw [← hr1.len]; exact (HLEN.out t hlt).symm
                  have HNO : Hid (more = false → ∀ r, r < t + 1 → ∀ j, j < L → ax (V r) j = spW p th bk V r j) := Lib.hid fun hm r hr j hj => by
                    rcases Nat.lt_or_ge r t with h1 | h1
                    · exact (hno.out hm).1 r h1 j hj
                    · obtain rfl : r = t := by omega
                      exact (hno.out hm).2 j hj
                  go_wp2
                  go_roundw
                  case rel => exact ⟨more, t + 1, V, rfl, by go_num, by omega, hT, hgp, HNO⟩
                  case measure => simp [intOf]; omega
            · obtain rfl : n = t := by omega
              go_wp2
              go_roundg (2 * gapW X V n L + more.toNat)
              case rel => exact ⟨more, V, rfl, hT, rfl, hno⟩
              case measure =>
                have h1 := hgp.out
                cases more with
                | true => have := h1.2 rfl; simp at hgk ⊢; omega
                | false => simp at hgk ⊢; omega
        | false =>
          have hW := times_of HOK.out hT.inv.len (by rw [HL.out]; intro s hs i hi; exact hno.out rfl s hs i (by rw [← HLEN.out s hs]; exact hi))
          have hu := times_uniq HOK.out hW HXT.out
          rw [HL.out] at hu
          have HE : Hid (rowsOf n W = rowsOf n X) := Lib.hid (List.map_congr_left fun s hs => hu s (List.mem_range.1 hs))
          have HR := Lib.hid (hT.out.plan HCAP.out.1 HCAP.out.2)
          clear hW hu
          go_wp2
          go_ret
          exact ⟨cap, bh, rfl, by rw [← HE.out]; exact HR.out, hT.below⟩
end Go.Proofs.YtjaepdkeldgikaaDoor
