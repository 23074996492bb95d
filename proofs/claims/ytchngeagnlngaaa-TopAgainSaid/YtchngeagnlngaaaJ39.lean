/- Texts joined: Gath1. -/
import Derived.Test.YtchngeagnlngaaaJ08
import Derived.Test.YtchngeagnlngaaaJ26
import Derived.Test.YtchngeagnlngaaaJ34
import Derived.Test.YtchngeagnlngaaaJ18
import Derived.Deep.CutBlock
import Derived.Deep.DeepCutAuto
import Derived.Deep.RegionHeld3
section
set_option linter.unusedVariables false
set_option linter.unusedSimpArgs false
set_option linter.unusedSectionVars false
namespace Go.Proofs.Ytchngeagnlngaaa
open Go.RowKit Gal
set_option maxRecDepth 100000
set_option maxHeartbeats 2000000
theorem gather_any (ds es : List Grd) (F G : Nat → Prop) (a0 a1 : Option Addr) (n0 n1 k0 k1 b0 b1 o0 o1 : Nat) (w : World) (h0 : RowAt Form.grd w F a0 n0 k0 b0 o0 ds) (h1 : RowAt Form.grd w G a1 n1 k1 b1 o1 es) (hn : n0 * 80 ≤ 140737488355328) :
  Calls Try.prog 30 #[.slice a0 n0 k0, .slice a1 n1 k1] w fun e w' => ∃ u, e = .returned (.tuple #[u, errV (gatherFault ds es)]) ∧ Below w.heap.size w w' ∧
   (gatherFault ds es = 0 → ∃ a k b, u = .slice a n0 k ∧ RowAt Form.grd w' (newB w.heap.size) a n0 k b 0 (gatherTo ds es n0)) ∧ (gatherFault ds es ≠ 0 → u = .slice none 0 0) := by
 obtain ⟨i0, hi, hz0, hz1, hz2⟩ := info_parts info_grad
 have m0 := h0.max
 have m1 := h1.max
 unfold maxLen at m0 m1
 have HL0 := Lib.hid h0.len
 have HL1 := Lib.hid h1.len
 have HN := Lib.hid hn
 clear hn
 by_cases hl : n0 = n1
 ·subst hl
  have HGF : Hid (gatherFault ds es = gatherFaultTo ds es n0) := Lib.hid (by unfold gatherFault; rw [if_pos (HL0.out.trans HL1.out.symm), HL0.out])
  rw [HGF.out]
  have hne : ((n0 : Int) != (n0 : Int)) = false := by simp
  go_enter Try.func30, Try.ntmps30
  go_wp2_with fail
  go_loopw [6, 19] (fun s j wr => ∃ t : Nat, t ≤ n0 ∧ j = .int .i64 t ∧ Hid (gatherFaultTo ds es t = 0) ∧ OwnRow Form.grd 93 wr w.heap.size (newB w.heap.size) s (gatherTo ds es t) ∧ Below w.heap.size w wr) (fun _ j _ => n0 - (intOf j).toNat)
  case atStart => exact ⟨0, Nat.zero_le _, rfl, Lib.hid rfl, OwnRow.nil _ _ _ _ _, Below.refl _ _⟩
  case round =>
   obtain ⟨t, ht, rfl, HZ, hown, hbr⟩ := hrel
   by_cases hlt : t < n0
   ·have hltI : (t : Int) < (n0 : Int) := by omega
    have hgeI : (0 : Int) ≤ (t : Int) := by omega
    obtain rfl := h0.ptr (by omega)
    obtain rfl := h1.ptr (by omega)
    obtain ⟨pWx1, pWx2, pWx3, pWx4, pWx5, pBx1, pBx2, pBx3, pBx4, pBx5, c0, c1, c2, c3, c4, c5, yW, yB⟩ := grd_cells (h0.keep hbr) (gx_get (by rw [HL0.out]; exact hlt))
    obtain ⟨qWx1, qWx2, qWx3, qWx4, qWx5, qBx1, qBx2, qBx3, qBx4, qBx5, e0, e1, e2, e3, e4, e5, zW, zB⟩ := grd_cells (h1.keep hbr) (gx_get (by rw [HL1.out]; exact hlt))
    obtain ⟨A, hA⟩ : ∃ A, A = gx ds t := ⟨_, rfl⟩
    obtain ⟨B, hB⟩ : ∃ B, B = gx es t := ⟨_, rfl⟩
    rw [← hA] at c0 c1 c3 c4 yW yB
    rw [← hB] at e0 e1 e3 e4 zW zB
    have HA := Lib.hid hA
    have HB := Lib.hid hB
    have CW : Cells3 wr b0 (o0 + t * 6) _ _ _ := ⟨c0, c1, c2⟩
    have CB : Cells3 wr b0 (o0 + t * 6 + 3) _ _ _ := ⟨c3, c4, c5⟩
    have DW : Cells3 wr b1 (o1 + t * 6) _ _ _ := ⟨e0, e1, e2⟩
    have DB : Cells3 wr b1 (o1 + t * 6 + 3) _ _ _ := ⟨e3, e4, e5⟩
    clear hA hB c0 c1 c2 c3 c4 c5 e0 e1 e2 e3 e4 e5
    obtain ⟨av, cv, hsv⟩ := hown.slice
    rw [gatherTo_length] at hsv
    subst hsv
    have HOB := Lib.hid hown.base_le
    have hwz := hbr.size
    have hlb0 : b0 < wr.heap.size := (h0.keep hbr).lt (by omega)
    have hlb1 : b1 < wr.heap.size := (h1.keep hbr).lt (by omega)
    go_upto_region 7 with (fail)
    go_cut [8, 9] (fun s1 s9 wx => ∃ p a5 n5 k5 b5 o5, s1 = .pointer (some ⟨p, 0, none⟩) ∧ s9 = errV (lossFault A.W B.W) ∧ Box wx p [.int .i64 (orNone (lossFault A.W B.W) (matAdd A.W B.W)).rows, .int .i64 (orNone (lossFault A.W B.W) (matAdd A.W B.W)).cols, .slice a5 n5 k5] 28 ∧ IntsAt wx a5 n5 k5 b5 o5 (orNone (lossFault A.W B.W) (matAdd A.W B.W)).cells ∧ (0 < n5 → wr.heap.size ≤ b5) ∧ Below wr.heap.size wr wx)
    case first =>
     go_region_held3 (fun w' => w'.cell? ⟨b0, o0 + t * 6, none⟩ = some (.int .i64 A.W.rows) ∧ w'.cell? ⟨b0, o0 + t * 6 + 1, none⟩ = some (.int .i64 A.W.cols) ∧ w'.cell? ⟨b0, o0 + t * 6 + 2, none⟩ = some (.slice pWx1 pWx2 pWx3) ∧ w'.cell? ⟨b1, o1 + t * 6, none⟩ = some (.int .i64 B.W.rows) ∧ w'.cell? ⟨b1, o1 + t * 6 + 1, none⟩ = some (.int .i64 B.W.cols) ∧ w'.cell? ⟨b1, o1 + t * 6 + 2, none⟩ = some (.slice qWx1 qWx2 qWx3)) (exact cells33c (by repeat (first | (with_reducible first | exact CW | refine Cells3.alloc ?_ _ | refine Cells3.drewN ?_ _ | refine Cells3.drew ?_ | (refine Cells3.far ?_ ?_ _; rotate_left 1; (first | (dsimp only; omega) | omega | (simp; omega) | simp)) | refine Cells3.keep ?_ hb5) | exact CW)) (by repeat (first | (with_reducible first | exact DW | refine Cells3.alloc ?_ _ | refine Cells3.drewN ?_ _ | refine Cells3.drew ?_ | (refine Cells3.far ?_ ?_ _; rotate_left 1; (first | (dsimp only; omega) | omega | (simp; omega) | simp)) | refine Cells3.keep ?_ hb5) | exact DW))) ((go_at_call 68; go_must (refine (matAdd_any A.W B.W _ _ _ (MatAt.mk (show IntsAt _ pWx1 pWx2 pWx3 pWx4 pWx5 A.W.cells from yW.k)) (MatAt.mk (show IntsAt _ qWx1 qWx2 qWx3 qWx4 qWx5 B.W.cells from zW.k))).mono ?_); go_must (rintro e w5 ⟨v5, rfl, ⟨a5, n5, k5, b5, o5, rfl, hn5, x5⟩, hb5⟩); (try (refine (fun (P1 : Box w5 (wr.heap.size) [.int .i64 0, .int .i64 0, .slice none 0 0] 28) => ?_) ?_; rotate_left 1; (with_reducible refine Box.keep ?_ hb5); (focus ((repeat (first | (with_reducible refine (Box.new' _ (wr.heap.size) _ _ ?_); (simp; done)) | (with_reducible refine Box.alloc ?_ _) | (with_reducible refine Box.drew ?_) | (with_reducible refine Box.drewN ?_ _))); done)); have P1c := P1.cell; have P1f := P1.thawed; have P1z := P1.lt))))
     all_goals (
      go_wp2_with fail
      go_meet
      simp at hn5
      exact ⟨_, a5, n5, k5, b5, o5, rfl, rfl, (by repeat (first | (with_reducible first | (refine (Box.new' _ _ _ _ ?_); (simp; done)) | refine Box.alloc ?_ _ | refine Box.drewN ?_ _ | refine Box.drew ?_ | refine Box.set6z ?_ _ _ _ _ _ _ | refine Box.set3z ?_ _ _ _ | refine Box.fx ?_ _ | refine Box.keep ?_ hb5))), (by repeat (first | (with_reducible first | exact x5 | refine IntsAt.alloc ?_ _ | refine IntsAt.drewN ?_ _ | refine IntsAt.drew ?_ | (refine IntsAt.set ?_ ?_ _; rotate_left 1; (intro h0; have hq0 := hn5 h0; first | (dsimp only; omega) | omega | (simp; omega) | simp))) | exact x5)), fun h => by have := hn5 h; omega, (Below.x1 hb5)⟩)
    case rest =>
    obtain ⟨pA, aA, nA, kA, bA, oA, rfl, rfl, QA, xA, lA, hcA⟩ := hcut
    obtain ⟨wA, rfl⟩ : ∃ wA, wA = wc := ⟨_, rfl⟩
    replace CB := CB.keep hcA
    replace DB := DB.keep hcA
    replace yB := yB.keep hcA
    replace zB := zB.keep hcA
    replace hown := hown.keep hcA
    have hbA : Below w.heap.size w wA := (Below.y1 hcA hbr)
    have hzA := hcA.size
    by_cases hf1 : lossFault A.W B.W = 0
    ·rw [errV_nil hf1]
     rw [orNone_ok hf1] at QA xA
     have QA := QA
     have QAc := QA.cell
     have QAf := QA.thawed
     have QAz := QA.lt
     have QAk := lt_add QAz
     have hlA := xA.lt
     have HF1 := Lib.hid hf1
     clear hf1 CW DW yW zW hbr
     go_upto_region 10 with (fail)
     go_cut [10, 9] (fun s1 s9 wx => ∃ p a5 n5 k5 b5 o5, s1 = .pointer (some ⟨p, 0, none⟩) ∧ s9 = errV (lossFault A.B B.B) ∧ Box wx p [.int .i64 (orNone (lossFault A.B B.B) (matAdd A.B B.B)).rows, .int .i64 (orNone (lossFault A.B B.B) (matAdd A.B B.B)).cols, .slice a5 n5 k5] 28 ∧ IntsAt wx a5 n5 k5 b5 o5 (orNone (lossFault A.B B.B) (matAdd A.B B.B)).cells ∧ (0 < n5 → wA.heap.size ≤ b5) ∧ Below wA.heap.size wA wx)
     case first =>
      go_region_held3 (fun w' => w'.cell? ⟨b0, o0 + t * 6+ 3, none⟩ = some (.int .i64 A.B.rows) ∧ w'.cell? ⟨b0, o0 + t * 6 + 4, none⟩ = some (.int .i64 A.B.cols) ∧ w'.cell? ⟨b0, o0 + t * 6 + 5, none⟩ = some (.slice pBx1 pBx2 pBx3) ∧ w'.cell? ⟨b1, o1 + t * 6+ 3, none⟩ = some (.int .i64 B.B.rows) ∧ w'.cell? ⟨b1, o1 + t * 6 + 4, none⟩ = some (.int .i64 B.B.cols) ∧ w'.cell? ⟨b1, o1 + t * 6 + 5, none⟩ = some (.slice qBx1 qBx2 qBx3)) (exact cells33c (by repeat (first | (with_reducible first | exact CB | refine Cells3.alloc ?_ _ | refine Cells3.drewN ?_ _ | refine Cells3.drew ?_ | (refine Cells3.far ?_ ?_ _; rotate_left 1; (first | (dsimp only; omega) | omega | (simp; omega) | simp)) | refine Cells3.keep ?_ hb5) | exact CB)) (by repeat (first | (with_reducible first | exact DB | refine Cells3.alloc ?_ _ | refine Cells3.drewN ?_ _ | refine Cells3.drew ?_ | (refine Cells3.far ?_ ?_ _; rotate_left 1; (first | (dsimp only; omega) | omega | (simp; omega) | simp)) | refine Cells3.keep ?_ hb5) | exact DB))) ((go_at_call 68; go_must (refine (matAdd_any A.B B.B _ _ _ (MatAt.mk (show IntsAt _ pBx1 pBx2 pBx3 pBx4 pBx5 A.B.cells from yB.k)) (MatAt.mk (show IntsAt _ qBx1 qBx2 qBx3 qBx4 qBx5 B.B.cells from zB.k))).mono ?_); go_must (rintro e w5 ⟨v5, rfl, ⟨a5, n5, k5, b5, o5, rfl, hn5, x5⟩, hb5⟩); (try (refine (fun (P1 : Box w5 (wA.heap.size) [.int .i64 0, .int .i64 0, .slice none 0 0] 28) => ?_) ?_; rotate_left 1; (with_reducible refine Box.keep ?_ hb5); (focus ((repeat (first | (with_reducible refine (Box.new' _ (wA.heap.size) _ _ ?_); (simp; done)) | (with_reducible refine Box.alloc ?_ _) | (with_reducible refine Box.drew ?_) | (with_reducible refine Box.drewN ?_ _))); done)); have P1c := P1.cell; have P1f := P1.thawed; have P1z := P1.lt))))
      all_goals (
       go_wp2_with fail
       go_meet
       simp at hn5
       exact ⟨_, a5, n5, k5, b5, o5, rfl, rfl, (by repeat (first | (with_reducible first | (refine (Box.new' _ _ _ _ ?_); (simp; done)) | refine Box.alloc ?_ _ | refine Box.drewN ?_ _ | refine Box.drew ?_ | refine Box.set6z ?_ _ _ _ _ _ _ | refine Box.set3z ?_ _ _ _ | refine Box.fx ?_ _ | refine Box.keep ?_ hb5))), (by repeat (first | (with_reducible first | exact x5 | refine IntsAt.alloc ?_ _ | refine IntsAt.drewN ?_ _ | refine IntsAt.drew ?_ | (refine IntsAt.set ?_ ?_ _; rotate_left 1; (intro h0; have hq0 := hn5 h0; first | (dsimp only; omega) | omega | (simp; omega) | simp))) | exact x5)), fun h => by have := hn5 h; omega, (Below.x1 hb5)⟩)
     case rest =>
     obtain ⟨pB, aB, nB, kB, bB, oB, rfl, rfl, QB, xB, lB, hcB⟩ := hcut
     obtain ⟨wB, rfl⟩ : ∃ wB, wB = wc := ⟨_, rfl⟩
     have hkwB : Below wA.heap.size wA wB := (Below.x1 hcB)
     replace QA := QA.keep hkwB
     replace QAc := QA.cell
     replace QAf := QA.thawed
     replace QAz := QA.lt
     replace QAk := lt_add QAz
     replace xA := xA.keep hkwB
     replace hown := hown.keep hcB
     have hbB : Below w.heap.size w wB := (Below.y1 hcB hbA)
     have hzB := hcB.size
     by_cases hf2 : lossFault A.B B.B = 0
     ·rw [errV_nil hf2]
      rw [orNone_ok hf2] at QB xB
      have QB := QB
      have QBc := QB.cell
      have QBf := QB.thawed
      have QBz := QB.lt
      have QBk := lt_add QBz
      have HF2 := Lib.hid hf2
      have hrowq : ∀ r, (Value.slice av t cv).ownBlock = some r → r < wr.heap.size := fun r hr => (HOB.out r hr).2
      have HROW := Lib.hid hrowq
      have hlen : (gatherTo ds es t).length = t := gatherTo_length ds es t
      have HLEN := Lib.hid hlen
      have HSUC : Hid (gatherTo ds es (t + 1) = gatherTo ds es t ++ [pairSum A B]) := Lib.hid (by rw [gatherTo_succ, HA.out, HB.out])
      have HNX : Hid (gatherFaultTo ds es (t + 1) = 0) := Lib.hid (by rw [gather_next HZ.out, ← HA.out, ← HB.out, pairFault_b HF1.out, HF2.out])
      clear hf2 hrowq hlen CB DB yB zB
      go_wp2_with (at_builtin; go_must (refine wpList_push rfl (.tmp 56) (.tmp 60) 23 rfl Form.grd w.heap.size (newB w.heap.size) 93 i0 (.agg #[.int .i64 0, .int .i64 0, .slice none 0 0, .int .i64 0, .int .i64 0, .slice none 0 0]) 80 Try.underlying23 hi hz0 hz1 hz2 rfl (by decide) (.slice av t cv) (gatherTo ds es t) rfl (hown.keep ((Below.refl wB.heap.size wB).alloc (Nat.le_refl _) _)) wB.heap.size 1 [.int .i64 (matAdd A.W B.W).rows, .int .i64 (matAdd A.W B.W).cols, .slice aA nA kA, .int .i64 (matAdd A.B B.B).rows, .int .i64 (matAdd A.B B.B).cols, .slice aB nB kB] 93 (pairSum A B) rfl (Box.new _ _ _) (reads_grd (d := pairSum A B) (fun h => ⟨by have := lA h; unfold newB; omega, fun e => by have := HROW.out _ e; have := lA h; omega⟩) (xA.alloc _) (fun h => ⟨by have := lB h; unfold newB; omega, fun e => by have := HROW.out _ e; have := lB h; omega⟩) (xB.alloc _)) (by rw [HLEN.out]; have := HN.out; omega) (by rw [HLEN.out]; unfold maxLen; omega) (by simp; omega) _ rfl ?_))
      intro g cap w' hown7 hgrow hgv hgl
      rw [HLEN.out] at hown7 ⊢
      have hbn : Below w.heap.size w w' := Below.grown (Below.al hbB _) hgrow (by simp; omega) (fun r hr => (HOB.out r hr).1)
      go_wp2
      go_roundw
      case rel => exact ⟨t + 1, by omega, by go_num, HNX, by rw [HSUC.out]; exact hown7, hbn⟩
      case measure => simp [intOf]; omega
     ·rw [errV_err hf2]
      have HST : Hid (gatherFaultTo ds es n0 = lossFault A.B B.B) := Lib.hid (by
       have e1 : pairFault (gx ds t) (gx es t) = lossFault A.B B.B := by rw [← HA.out, ← HB.out, pairFault_b HF1.out]
       rw [gather_stop hlt HZ.out (by rw [e1]; exact hf2), e1])
      have HN2 := Lib.hid hf2
      clear hf2
      go_wp2
      refine bodyPost_ret (v := .tuple #[.slice none 0 0, .iface 62 (.int .i64 (lossFault A.B B.B))]) (by simp [results, Try.results30, go_sem]) rfl ⟨.slice none 0 0, ?_, hbB, ?_, ?_⟩
      ·rw [HST.out, errV_err HN2.out]
      ·exact fun h => absurd (HST.out.symm.trans h) HN2.out
      ·exact fun _ => rfl
    ·rw [errV_err hf1]
     have HST : Hid (gatherFaultTo ds es n0 = lossFault A.W B.W) := Lib.hid (by
      have e1 : pairFault (gx ds t) (gx es t) = lossFault A.W B.W := by rw [← HA.out, ← HB.out, pairFault_w hf1]
      rw [gather_stop hlt HZ.out (by rw [e1]; exact hf1), e1])
     have HN1 := Lib.hid hf1
     clear hf1
     go_wp2
     refine bodyPost_ret (v := .tuple #[.slice none 0 0, .iface 62 (.int .i64 (lossFault A.W B.W))]) (by simp [results, Try.results30, go_sem]) rfl ⟨.slice none 0 0, ?_, hbA, ?_, ?_⟩
     ·rw [HST.out, errV_err HN1.out]
     ·exact fun h => absurd (HST.out.symm.trans h) HN1.out
     ·exact fun _ => rfl
   ·obtain rfl : t = n0 := by omega
    obtain ⟨av, cv, bb, hv, hbb, hrow⟩ := hown.row (G := newB w.heap.size) (fun c hc _ => hc) (fun c hc => hc)
    rw [gatherTo_length] at hv hbb hrow
    subst hv
    have HR := Lib.hid hrow
    clear hown hrow
    go_wp2
    refine bodyPost_ret (v := .tuple #[.slice av t cv, .nilIface]) (by simp [results, Try.results30, go_sem]) rfl ⟨.slice av t cv, ?_, hbr, ?_, ?_⟩
    ·rw [errV_nil HZ.out]
    ·exact fun _ => ⟨_, _, _, rfl, HR.out⟩
    ·exact fun h => absurd HZ.out h
 ·have hne : ((n0 : Int) != (n1 : Int)) = true := by simp; omega
  have HGF : Hid (gatherFault ds es = 2) := Lib.hid (by unfold gatherFault; rw [if_neg (by rw [HL0.out, HL1.out]; exact hl)])
  rw [HGF.out, errV_err (by decide)]
  clear hl
  go_enter Try.func30, Try.ntmps30
  go_wp2
  refine bodyPost_ret (v := .tuple #[.slice none 0 0, .iface 62 (.int .i64 2)]) (by simp [results, Try.results30, go_sem]) rfl ⟨.slice none 0 0, ?_, Below.refl _ _, ?_, ?_⟩
  ·rfl
  ·exact fun h => absurd h (by decide)
  ·exact fun _ => rfl
end Go.Proofs.Ytchngeagnlngaaa
end
