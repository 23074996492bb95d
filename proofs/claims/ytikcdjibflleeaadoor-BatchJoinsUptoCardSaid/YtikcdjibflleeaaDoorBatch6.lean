/- Contract of batch.Join, of any batches of which there are not too many. -/
import Derived.Test.YtikcdjibflleeaaDoorBatch5
set_option linter.unusedVariables false
set_option linter.unusedSimpArgs false
set_option linter.unusedSectionVars false
namespace Gal
open Go Go.RowKit
def batFaultTo (ds : List Bat) : Nat → Int
  | 0 => 0
  | k + 1 => if batFaultTo ds k = 0 then (bx ds k).fault else batFaultTo ds k
theorem batFaultTo_next {ds : List Bat} {k : Nat} (h : batFaultTo ds k = 0) : batFaultTo ds (k + 1) = (bx ds k).fault := if_pos h
theorem batFaultTo_stays {ds : List Bat} {k m : Nat} (h : k ≤ m) (hk : batFaultTo ds k ≠ 0) : batFaultTo ds m = batFaultTo ds k := by
  induction m with
  | zero => obtain rfl : k = 0 := by omega
            rfl
  | succ m ih =>
    rcases Nat.lt_or_ge k (m + 1) with h1 | h1
    · have e := ih (by omega)
      show (if batFaultTo ds m = 0 then _ else _) = _
      rw [if_neg (by rw [e]; exact hk), e]
    · obtain rfl : k = m + 1 := by omega
      rfl
theorem batFaultTo_all {ds : List Bat} {k : Nat} (h : batFaultTo ds k = 0) : ∀ j, j < k → (bx ds j).fault = 0 := by
  induction k with
  | zero => intro j hj; omega
  | succ k ih =>
    have h1 : batFaultTo ds k = 0 := by
      by_cases e : batFaultTo ds k = 0
      · exact e
      · rw [batFaultTo_stays (k := k) (by omega) e] at h
        exact absurd h e
    rw [batFaultTo_next h1] at h
    intro j hj
    rcases Nat.lt_or_ge j k with g | g
    · exact ih h1 j g
    · obtain rfl : j = k := by omega
      exact h
def joinFault (ds : List Bat) : Int :=
  if ds.length = 0 then 2 else if batFaultTo ds ds.length ≠ 0 then batFaultTo ds ds.length else if stackFault (insTo ds ds.length) ≠ 0 then stackFault (insTo ds ds.length) else stackFault (wantsTo ds ds.length)
def joined (ds : List Bat) : Bat := if joinFault ds = 0 then ⟨matStack (insTo ds ds.length), matStack (wantsTo ds ds.length)⟩ else ⟨Mat.none, Mat.none⟩
theorem joined_bad {ds : List Bat} (h : joinFault ds ≠ 0) : joined ds = ⟨Mat.none, Mat.none⟩ := if_neg h
theorem joined_ok {ds : List Bat} (h : joinFault ds = 0) : joined ds = ⟨matStack (insTo ds ds.length), matStack (wantsTo ds ds.length)⟩ := if_pos h
theorem joinFault_bat {ds : List Bat} {q : Nat} (hq : q < ds.length) (hz : batFaultTo ds q = 0) (hf : (bx ds q).fault ≠ 0) : joinFault ds = (bx ds q).fault := by
  have e : batFaultTo ds ds.length = (bx ds q).fault := by rw [batFaultTo_stays (k := q + 1) (by omega) (by rw [batFaultTo_next hz]; exact hf), batFaultTo_next hz]
  unfold joinFault
  rw [if_neg (by omega), if_pos (by rw [e]; exact hf), e]
theorem joinFault_ins {ds : List Bat} {q : Nat} (hq : ds.length = q) (h0 : ds.length ≠ 0) (hz : batFaultTo ds q = 0) (h1 : stackFault (insTo ds q) ≠ 0) : joinFault ds = stackFault (insTo ds q) := by
  subst hq
  unfold joinFault
  rw [if_neg h0, if_neg (by rw [hz]; simp), if_pos h1]
theorem joinFault_stacks {ds : List Bat} {q : Nat} (hq : ds.length = q) (h0 : ds.length ≠ 0) (hz : batFaultTo ds q = 0) (h1 : stackFault (insTo ds q) = 0) : joinFault ds = stackFault (wantsTo ds q) := by
  subst hq
  unfold joinFault
  rw [if_neg h0, if_neg (by rw [hz]; simp), if_neg (by rw [h1]; simp)]
theorem Bat.faults {d : Bat} (h : d.fault = 0) : d.I.fault = 0 ∧ d.W.fault = 0 ∧ d.I.rows = d.W.rows ∧ 1 ≤ d.I.rows := Bat.fault_ok h
theorem insTo_mx {ds : List Bat} {q j : Nat} (hj : j < q) : mx (insTo ds q) j = (bx ds j).I := by
  unfold mx insTo
  rw [List.getElem?_map, List.getElem?_eq_getElem (by simpa using hj)]
  simp
theorem wantsTo_mx {ds : List Bat} {q j : Nat} (hj : j < q) : mx (wantsTo ds q) j = (bx ds j).W := by
  unfold mx wantsTo
  rw [List.getElem?_map, List.getElem?_eq_getElem (by simpa using hj)]
  simp
theorem insTo_first {ds : List Bat} {q : Nat} (hq : ds.length = q) (hz : batFaultTo ds q = 0) : firstFault (insTo ds q) = 0 := firstFault_none fun j hj => by
  rw [insTo_length] at hj
  rw [insTo_mx hj]
  exact (Bat.faults (batFaultTo_all hz j hj)).1
theorem wantsTo_first {ds : List Bat} {q : Nat} (hq : ds.length = q) (hz : batFaultTo ds q = 0) : firstFault (wantsTo ds q) = 0 := firstFault_none fun j hj => by
  rw [wantsTo_length] at hj
  rw [wantsTo_mx hj]
  exact (Bat.faults (batFaultTo_all hz j hj)).2.1
theorem bat_none (w : World) : BatAt w (.agg #[.int .i64 0, .int .i64 0, .slice none 0 0, .int .i64 0, .int .i64 0, .slice none 0 0]) ⟨Mat.none, Mat.none⟩ :=
  ⟨none, 0, 0, 0, 0, none, 0, 0, 0, 0, rfl, ⟨rfl, Nat.le_refl _, Nat.zero_le _, fun h => absurd h (Nat.lt_irrefl _), fun h => absurd h (Nat.lt_irrefl _), fun i hi => absurd hi (Nat.not_lt_zero _)⟩, ⟨rfl, Nat.le_refl _, Nat.zero_le _, fun h => absurd h (Nat.lt_irrefl _), fun h => absurd h (Nat.lt_irrefl _), fun i hi => absurd hi (Nat.not_lt_zero _)⟩⟩
end Gal
namespace Go.Proofs.YtikcdjibflleeaaDoor
open Go.RowKit Gal
set_option maxRecDepth 100000
set_option maxHeartbeats 4000000
theorem batchJoin_all (ds : List Bat) (F : Nat → Prop) (a : Option Addr) (n k b o : Nat) (w : World) (h : RowAt Form.bat w F a n k b o ds) (hn : n ≤ 1048576) :
    Calls Tryd.prog 16 #[.slice a n k] w fun e w' => ∃ v, e = .returned (.tuple #[v, errV (joinFault ds)]) ∧ BatAt w' v (joined ds) ∧ Below w.heap.size w w' := by
  rcases Nat.eq_zero_or_pos n with rfl | hn0
  · have HJ : Hid (joinFault ds = 2) := Lib.hid (by unfold joinFault; rw [if_pos h.len])
    have HB : Hid (joined ds = ⟨Mat.none, Mat.none⟩) := Lib.hid (by unfold joined; rw [HJ.out]; rfl)
    rw [HJ.out, HB.out, errV_err (by decide)]
    clear h hn
    go_enter Tryd.func16, Tryd.ntmps16
    go_wp2
    refine bodyPost_ret (v := .tuple #[.agg #[.int .i64 0, .int .i64 0, .slice none 0 0, .int .i64 0, .int .i64 0, .slice none 0 0], .iface 30 (.int .i64 2)]) (by simp [results, Tryd.results16, go_sem]) rfl ⟨_, rfl, bat_none _, (by repeat (first | fail | (with_reducible exact Below.refl _ _) | (with_reducible refine Below.al ?_ _) | (with_reducible refine Below.drN ?_ _) | (with_reducible refine Below.drew ?_) | (with_reducible refine Below.st ?_ ?_ _; rotate_left 1; (first | (dsimp only; omega) | omega | (simp; omega) | simp)) | exact Below.refl _ _))⟩
  obtain ⟨i0, hi, hz0, hz1, hz2⟩ := info_parts info_mat
  have hl := h.len
  obtain rfl := h.ptr hn0
  have hbs := h.lt hn0
  have HLN := Lib.hid hl
  have HNZ : Hid (ds.length ≠ 0) := Lib.hid (by omega)
  have hne : ((n : Int) == 0) = false := by simp; omega
  go_enter Tryd.func16, Tryd.ntmps16
  go_wp2
  go_loopw [4, 5, 19] (fun u v j wr => ∃ q : Nat, q ≤ n ∧ j = .int .i64 q ∧ Hid (batFaultTo ds q = 0) ∧ OwnRow Form.mat 25 wr (w.heap.size + 1) (oldB w.heap.size) u (insTo ds q) ∧ OwnRow Form.mat 25 wr (w.heap.size + 1) (oldB w.heap.size) v (wantsTo ds q) ∧ (∀ c, u.ownBlock = some c → v.ownBlock ≠ some c) ∧
      Below w.heap.size w wr ∧ Box wr w.heap.size [.int .i64 0, .int .i64 0, .slice none 0 0, .int .i64 0, .int .i64 0, .slice none 0 0] 50) (fun _ _ j _ => n - (intOf j).toNat)
  case atStart => exact ⟨0, Nat.zero_le _, rfl, Lib.hid rfl, OwnRow.nil _ _ _ _ _, OwnRow.nil _ _ _ _ _, fun c hc => by simp [Value.ownBlock] at hc, (by repeat (first | fail | (with_reducible exact Below.refl _ _) | (with_reducible refine Below.al ?_ _) | (with_reducible refine Below.drN ?_ _) | (with_reducible refine Below.drew ?_) | (with_reducible refine Below.st ?_ ?_ _; rotate_left 1; (first | (dsimp only; omega) | omega | (simp; omega) | simp)) | exact Below.refl _ _)), Box.new _ _ _⟩
  case round =>
    obtain ⟨q, hq, rfl, HZ, hu, hv, huv, hbr, B2⟩ := hrel
    have B2 := B2
    have B2c := B2.cell
    have B2f := B2.thawed
    have B2z := B2.lt
    have B2k := lt_add B2z
    obtain ⟨au, cu, eu⟩ := hu.slice
    rw [insTo_length] at eu
    subst eu
    obtain ⟨av, cv, ev⟩ := hv.slice
    rw [wantsTo_length] at ev
    subst ev
    have LU := Lib.hid (insTo_length ds q)
    have LV := Lib.hid (wantsTo_length ds q)
    have hru : ∀ r, (Value.slice au q cu).ownBlock = some r → w.heap.size + 1 ≤ r ∧ r < wr.heap.size := fun r hr => hu.base_le r hr
    have hrv : ∀ r, (Value.slice av q cv).ownBlock = some r → w.heap.size + 1 ≤ r ∧ r < wr.heap.size := fun r hr => hv.base_le r hr
    by_cases hlt : q < n
    · obtain ⟨p1, p2, p3, p4, p5, p6, p7, p8, p9, p10, c0, c1, c2, c3, c4, c5, y0, y1⟩ := bat_cells h (bx_get (ds := ds) (i := q) (by omega))
      have ly0 := y0.lt
      have ly1 := y1.lt
      have d0 := (hbr.cell (p := ⟨b, o + q * 6, none⟩) hbs).trans c0
      have d1 := (hbr.cell (p := ⟨b, o + q * 6 + 1, none⟩) hbs).trans c1
      have d2 := (hbr.cell (p := ⟨b, o + q * 6 + 2, none⟩) hbs).trans c2
      have d3 := (hbr.cell (p := ⟨b, o + q * 6 + 3, none⟩) hbs).trans c3
      have d4 := (hbr.cell (p := ⟨b, o + q * 6 + 4, none⟩) hbs).trans c4
      have d5 := (hbr.cell (p := ⟨b, o + q * 6 + 5, none⟩) hbs).trans c5
      clear c0 c1 c2 c3 c4 c5
      have D0 := Lib.hid d0
      have D1 := Lib.hid d1
      have D2 := Lib.hid d2
      have D3 := Lib.hid d3
      have D4 := Lib.hid d4
      have D5 := Lib.hid d5
      have z0 := y0.keep hbr
      have z1 := y1.keep hbr
      by_cases hfq : (bx ds q).fault ≠ 0
      · have HE : Hid (errV (bx ds q).fault = .iface 30 (.int .i64 (bx ds q).fault)) := Lib.hid (errV_err hfq)
        have HJ : Hid (joinFault ds = (bx ds q).fault) := Lib.hid (joinFault_bat (by rw [HLN.out]; exact hlt) HZ.out hfq)
        have HNE := Lib.hid hfq
        clear hfq hu hv huv d0 d1 d2 d3 d4 d5
        have hwz : w.heap.size < wr.heap.size := B2z
        obtain ⟨d0, d1, d2, d3, d4, d5⟩ : _ ∧ _ ∧ _ ∧ _ ∧ _ ∧ _ := ⟨D0.out, D1.out, D2.out, D3.out, D4.out, D5.out⟩
        go_wp2_with fail
        refine (batchCheck_any (bx ds q) _ _ ⟨_, _, _, _, _, _, _, _, _, _, rfl, z0.alloc _, z1.alloc _⟩).mono ?_
        rw [HE.out]
        rintro e w1 ⟨rfl, hb1⟩
        have hbA : Below wr.heap.size wr w1 := (by repeat (first | fail | (with_reducible exact Below.refl _ _) | (with_reducible refine Below.al ?_ _) | (with_reducible refine Below.drN ?_ _) | (with_reducible refine Below.drew ?_) | (with_reducible refine Below.st ?_ ?_ _; rotate_left 1; (first | (dsimp only; omega) | omega | (simp; omega) | simp)) | (with_reducible refine Below.go ?_ hb1) | exact Below.refl _ _))
        have hkw1 : Below wr.heap.size wr w1 := (by repeat (first | fail | (with_reducible exact Below.refl _ _) | (with_reducible refine Below.al ?_ _) | (with_reducible refine Below.drN ?_ _) | (with_reducible refine Below.drew ?_) | (with_reducible refine Below.st ?_ ?_ _; rotate_left 1; (first | (dsimp only; omega) | omega | (simp; omega) | simp)) | (with_reducible refine Below.go ?_ hbA) | exact Below.refl _ _))
        replace B2 := B2.keep hkw1
        replace B2c := B2.cell
        replace B2f := B2.thawed
        replace B2z := B2.lt
        replace B2k := lt_add B2z
        have hbe : Below w.heap.size w w1 := (by repeat (first | fail | (with_reducible exact Below.refl _ _) | (with_reducible exact hbr) | (with_reducible refine Below.al ?_ _) | (with_reducible refine Below.drN ?_ _) | (with_reducible refine Below.drew ?_) | (with_reducible refine Below.st ?_ ?_ _; rotate_left 1; (first | (dsimp only; omega) | omega | (simp; omega) | simp)) | (with_reducible refine Below.go ?_ hbA) | exact Below.refl _ _ | exact hbr))
        go_wp2
        refine bodyPost_ret (v := .tuple #[.agg #[.int .i64 0, .int .i64 0, .slice none 0 0, .int .i64 0, .int .i64 0, .slice none 0 0], .iface 30 (.int .i64 (bx ds q).fault)]) (by simp [results, Tryd.results16, go_sem, B2c, B2z, B2k]) rfl ⟨_, by rw [HJ.out, HE.out], by rw [joined_bad (by rw [HJ.out]; exact HNE.out)]; exact bat_none _, (by repeat (first | fail | (with_reducible exact Below.refl _ _) | (with_reducible exact hbe) | (with_reducible refine Below.al ?_ _) | (with_reducible refine Below.drN ?_ _) | (with_reducible refine Below.drew ?_) | (with_reducible refine Below.st ?_ ?_ _; rotate_left 1; (first | (dsimp only; omega) | omega | (simp; omega) | simp)) | exact Below.refl _ _ | exact hbe))⟩
      have HE : Hid (errV (bx ds q).fault = .nilIface) := Lib.hid (errV_nil (Decidable.not_not.1 hfq))
      have HZ1 : Hid (batFaultTo ds (q + 1) = 0) := Lib.hid (by rw [batFaultTo_next HZ.out]; exact Decidable.not_not.1 hfq)
      clear hfq D0 D1 D2 D3 D4 D5
      go_wp2_with fail
      refine (batchCheck_any (bx ds q) _ _ ⟨_, _, _, _, _, _, _, _, _, _, rfl, z0.alloc _, z1.alloc _⟩).mono ?_
      rw [HE.out]
      rintro e w1 ⟨rfl, hb1⟩
      have hbA : Below wr.heap.size wr w1 := (by repeat (first | fail | (with_reducible exact Below.refl _ _) | (with_reducible refine Below.al ?_ _) | (with_reducible refine Below.drN ?_ _) | (with_reducible refine Below.drew ?_) | (with_reducible refine Below.st ?_ ?_ _; rotate_left 1; (first | (dsimp only; omega) | omega | (simp; omega) | simp)) | (with_reducible refine Below.go ?_ hb1) | exact Below.refl _ _))
      have B7 : Box w1 wr.heap.size [.int .i64 (bx ds q).I.rows, .int .i64 (bx ds q).I.cols, .slice p1 p2 p3, .int .i64 (bx ds q).W.rows, .int .i64 (bx ds q).W.cols, .slice p6 p7 p8] 50 := Box.keep (by repeat (first | fail | (with_reducible refine (Box.new' _ wr.heap.size _ _ ?_); (simp; done)) | (with_reducible refine Box.alloc ?_ _) | (with_reducible refine Box.drewN ?_ _) | (with_reducible refine Box.drew ?_) | (with_reducible refine Box.far ?_ ?_ _; rotate_left 1; (first | (dsimp only; omega) | omega | (simp; omega) | simp)))) hb1
      have hkw1 : Below wr.heap.size wr w1 := (by repeat (first | fail | (with_reducible exact Below.refl _ _) | (with_reducible refine Below.al ?_ _) | (with_reducible refine Below.drN ?_ _) | (with_reducible refine Below.drew ?_) | (with_reducible refine Below.st ?_ ?_ _; rotate_left 1; (first | (dsimp only; omega) | omega | (simp; omega) | simp)) | (with_reducible refine Below.go ?_ hbA) | exact Below.refl _ _))
      replace B2 := B2.keep hkw1
      replace B2c := B2.cell
      replace B2f := B2.thawed
      replace B2z := B2.lt
      replace B2k := lt_add B2z
      replace z0 := z0.keep hkw1
      replace z1 := z1.keep hkw1
      replace hu := hu.keep hbA
      replace hv := hv.keep hbA
      have B7 := B7
      have B7c := B7.cell
      have B7f := B7.thawed
      have B7z := B7.lt
      have B7k := lt_add B7z
      have hbw1 : Below w.heap.size w w1 := (by repeat (first | fail | (with_reducible exact Below.refl _ _) | (with_reducible exact hbr) | (with_reducible refine Below.al ?_ _) | (with_reducible refine Below.drN ?_ _) | (with_reducible refine Below.drew ?_) | (with_reducible refine Below.st ?_ ?_ _; rotate_left 1; (first | (dsimp only; omega) | omega | (simp; omega) | simp)) | (with_reducible refine Below.go ?_ hbA) | exact Below.refl _ _ | exact hbr))
      have hz1w : wr.heap.size < w1.heap.size := B7z
      clear d0 d1 d2 d3 d4 d5
      go_wp2_with (at_builtin; refine wpList_push rfl (.tmp 29) (.tmp 32) 22 rfl Form.mat (w.heap.size + 1) (oldB w.heap.size) 25 i0 (.agg #[.int .i64 0, .int .i64 0, .slice none 0 0]) 40 Tryd.underlying22 hi hz0 hz1 hz2 rfl (by decide) (.slice au q cu) (insTo ds q) rfl (hu.keep ((Below.refl _ _).alloc (Nat.le_refl _) _)) w1.heap.size 1 [.int .i64 (bx ds q).I.rows, .int .i64 (bx ds q).I.cols, .slice p1 p2 p3] 25 (bx ds q).I rfl (Box.new _ _ _) ⟨p1, p2, p3, p4, p5, rfl, fun h => ⟨ly0 h, fun e => by have := (hru _ e).1; have := ly0 h; omega⟩, z0.alloc _⟩ (by rw [LU.out]; omega) (by rw [LU.out]; unfold maxLen; omega) (by simp; omega) _ rfl ?_)
      intro g2 capg2 w2 hu2 hgrow2 hgv2 hgl2
      have n1 : ∀ c, (Value.slice av q cv).ownBlock = some c → some c ≠ (Value.slice au q cu).ownBlock := fun c hc e => huv c e.symm hc
      have hv2 := (hv.alloc' (.cells #[.int .i64 (bx ds q).I.rows, .int .i64 (bx ds q).I.cols, .slice p1 p2 p3] 25)).grown hgrow2 n1 (fun c hc _ e => by have := (hru _ e.symm).1; unfold oldB at hc; omega)
      have B7b := (B7.alloc (.cells #[.int .i64 (bx ds q).I.rows, .int .i64 (bx ds q).I.cols, .slice p1 p2 p3] 25)).grown hgrow2 (fun e => by have := (hru _ e.symm).2; omega)
      have B2b := (B2.alloc (.cells #[.int .i64 (bx ds q).I.rows, .int .i64 (bx ds q).I.cols, .slice p1 p2 p3] 25)).grown hgrow2 (fun e => by have := (hru _ e.symm).1; omega)
      have z1b := (z1.alloc (.cells #[.int .i64 (bx ds q).I.rows, .int .i64 (bx ds q).I.cols, .slice p1 p2 p3] 25)).grown hgrow2 (fun h e => by have := (hru _ e.symm).1; have := ly1 h; omega)
      have hbw2 : Below w.heap.size w w2 := Below.grown (Below.al hbw1 _) hgrow2 (by simp; omega) (fun r hr => by have := (hru r hr).1; omega)
      have hz2w : w1.heap.size < w2.heap.size := by have := hgrow2.size; simp at this; omega
      have hg2r : g2 ≠ wr.heap.size ∧ w.heap.size + 1 ≤ g2 := by
        rcases hgv2 with e | e
        · have := hru _ e; omega
        · (try simp at e); omega
      clear B7 B7c B7f B7z B7k B2 B2c B2f B2z B2k z1 z0 hv hu
      have B7 := B7b
      have B7c := B7.cell
      have B7f := B7.thawed
      have B7z := B7.lt
      have B7k := lt_add B7z
      have B2 := B2b
      have B2c := B2.cell
      have B2f := B2.thawed
      have B2z := B2.lt
      have B2k := lt_add B2z
      go_wp2_with (at_builtin; refine wpList_push rfl (.tmp 34) (.tmp 37) 22 rfl Form.mat (w.heap.size + 1) (oldB w.heap.size) 25 i0 (.agg #[.int .i64 0, .int .i64 0, .slice none 0 0]) 40 Tryd.underlying22 hi hz0 hz1 hz2 rfl (by decide) (.slice av q cv) (wantsTo ds q) rfl (hv2.keep ((Below.refl _ _).alloc (Nat.le_refl _) _)) w2.heap.size 1 [.int .i64 (bx ds q).W.rows, .int .i64 (bx ds q).W.cols, .slice p6 p7 p8] 25 (bx ds q).W rfl (Box.new _ _ _) ⟨p6, p7, p8, p9, p10, rfl, fun h => ⟨ly1 h, fun e => by have := (hrv _ e).1; have := ly1 h; omega⟩, z1b.alloc _⟩ (by rw [LV.out]; omega) (by rw [LV.out]; unfold maxLen; omega) (by simp; omega) _ rfl ?_)
      intro g3 capg3 w3 hv3 hgrow3 hgv3 hgl3
      have hu3 := (hu2.alloc' (.cells #[.int .i64 (bx ds q).W.rows, .int .i64 (bx ds q).W.cols, .slice p6 p7 p8] 25)).grown hgrow3 (fun c hc e => by
        simp [Value.ownBlock] at hc
        subst hc
        rcases hgv2 with e2 | e2
        · exact huv _ e2 e.symm
        · have := (hrv _ e.symm).2; (try simp at e2); omega) (fun c hc _ e => by have := (hrv _ e.symm).1; unfold oldB at hc; omega)
      have B2c3 := (B2.alloc (.cells #[.int .i64 (bx ds q).W.rows, .int .i64 (bx ds q).W.cols, .slice p6 p7 p8] 25)).grown hgrow3 (fun e => by have := (hrv _ e.symm).1; omega)
      have hbw3 : Below w.heap.size w w3 := Below.grown (Below.al hbw2 _) hgrow3 (by simp; omega) (fun r hr => by have := (hrv r hr).1; omega)
      have hdis : ∀ c, (Value.slice (some ⟨g2, 0, none⟩) ((insTo ds q).length + 1) capg2).ownBlock = some c → (Value.slice (some ⟨g3, 0, none⟩) ((wantsTo ds q).length + 1) capg3).ownBlock ≠ some c := fun c hc e => by
        simp [Value.ownBlock] at hc e
        subst hc
        subst e
        rcases hgv3 with e3 | e3
        · rcases hgv2 with e2 | e2
          · exact huv _ e2 e3
          · have := (hrv _ e3).2; (try simp at e2); omega
        · (try simp at e3); omega
      go_wp2
      go_roundw
      case rel => exact ⟨q + 1, by omega, by go_num, HZ1, by rw [insTo_succ]; exact hu3, by rw [wantsTo_succ]; exact hv3, hdis, hbw3, B2c3⟩
      case measure => simp [intOf]; omega
    · obtain rfl : q = n := by omega
      obtain ⟨a1, k1, b1, e1, hb1', r1⟩ := hu.row (G := anyB) (fun _ _ _ => trivial) (fun _ _ => trivial)
      obtain ⟨a2, k2, b2, e2, hb2', r2⟩ := hv.row (G := anyB) (fun _ _ _ => trivial) (fun _ _ => trivial)
      rw [insTo_length] at e1 hb1' r1
      rw [wantsTo_length] at e2 hb2' r2
      obtain ⟨rfl, rfl⟩ : au = a1 ∧ cu = k1 := by simpa using e1
      obtain ⟨rfl, rfl⟩ : av = a2 ∧ cv = k2 := by simpa using e2
      have m2 := r2.mats
      clear e1 e2 hu hv huv
      have HF1 : Hid (firstFault (insTo ds q) = 0) := Lib.hid (insTo_first HLN.out HZ.out)
      have HF2 : Hid (firstFault (wantsTo ds q) = 0) := Lib.hid (wantsTo_first HLN.out HZ.out)
      by_cases h1 : stackFault (insTo ds q) = 0
      · have H1 := Lib.hid h1
        clear h1
        have hwz : w.heap.size < wr.heap.size := B2z
        go_wp2_with fail
        refine (matStack_any au q cu b1 0 (insTo ds q) _ r1.mats hn HF1.out hn0).mono ?_
        rintro e w5 ⟨hst, _, hb5⟩
        obtain ⟨v5, rfl, a5, n5, k5, b5, o5, rfl, hn5, x5⟩ := hst H1.out
        clear hst
        have hkw5 : Below wr.heap.size wr w5 := (by repeat (first | fail | (with_reducible exact Below.refl _ _) | (with_reducible refine Below.al ?_ _) | (with_reducible refine Below.drN ?_ _) | (with_reducible refine Below.drew ?_) | (with_reducible refine Below.st ?_ ?_ _; rotate_left 1; (first | (dsimp only; omega) | omega | (simp; omega) | simp)) | (with_reducible refine Below.go ?_ hb5) | exact Below.refl _ _))
        replace B2 := B2.keep hkw5
        replace B2c := B2.cell
        replace B2f := B2.thawed
        replace B2z := B2.lt
        replace B2k := lt_add B2z
        have m3 := (r2.keep hb5).alloc (.cells #[.int .i64 (matStack (insTo ds q)).rows, .int .i64 (matStack (insTo ds q)).cols, .slice a5 n5 k5] 25)
        have P9n : Box (w5.alloc (.cells #[.int .i64 (matStack (insTo ds q)).rows, .int .i64 (matStack (insTo ds q)).cols, .slice a5 n5 k5] 25)) w5.heap.size [.int .i64 (matStack (insTo ds q)).rows, .int .i64 (matStack (insTo ds q)).cols, .slice a5 n5 k5] 25 := Box.new w5 _ _
        by_cases h2 : stackFault (wantsTo ds q) = 0
        · have H2 := Lib.hid h2
          have HJ : Hid (joinFault ds = 0) := Lib.hid (by rw [joinFault_stacks HLN.out HNZ.out HZ.out H1.out]; exact h2)
          clear h2
          go_wp2_with fail
          refine (matStack_any av q cv b2 0 (wantsTo ds q) _ m3.mats hn HF2.out hn0).mono ?_
          rintro e w6 ⟨hst, _, hb6⟩
          obtain ⟨v6, rfl, a6, n6, k6, b6, o6, rfl, hn6, x6⟩ := hst H2.out
          clear hst
          have P9 : Box w6 w5.heap.size [.int .i64 (matStack (insTo ds q)).rows, .int .i64 (matStack (insTo ds q)).cols, .slice a5 n5 k5] 25 := P9n.keep hb6
          have l5 : 0 < n5 → w.heap.size < b5 := fun h => by have := hn5 h; omega
          have hz56 : w5.heap.size < w6.heap.size := P9.lt
          have hz5 : wr.heap.size ≤ w5.heap.size := hb5.size
          have l6 : 0 < n6 → w.heap.size < b6 := fun h => by have := hn6 h; simp at this; omega
          have x5b := (x5.alloc (.cells #[.int .i64 (matStack (insTo ds q)).rows, .int .i64 (matStack (insTo ds q)).cols, .slice a5 n5 k5] 25)).keep hb6
          have B2n : Box w6 w.heap.size [.int .i64 0, .int .i64 0, .slice none 0 0, .int .i64 0, .int .i64 0, .slice none 0 0] 50 := (B2.alloc _).keep hb6
          have hbe : Below w.heap.size w w6 := (by repeat (first | fail | (with_reducible exact Below.refl _ _) | (with_reducible exact hbr) | (with_reducible refine Below.al ?_ _) | (with_reducible refine Below.drN ?_ _) | (with_reducible refine Below.drew ?_) | (with_reducible refine Below.st ?_ ?_ _; rotate_left 1; (first | (dsimp only; omega) | omega | (simp; omega) | simp)) | (with_reducible refine Below.go ?_ hb6) | (with_reducible refine Below.go ?_ hb5) | exact Below.refl _ _ | exact hbr))
          clear B2 B2c B2f B2z B2k P9n
          have B2 := B2n
          have B2c := B2.cell
          have B2f := B2.thawed
          have B2z := B2.lt
          have B2k := lt_add B2z
          have P9 := P9
          have P9c := P9.cell
          have P9f := P9.thawed
          have P9z := P9.lt
          have P9k := lt_add P9z
          go_wp2
          refine bodyPost_ret (v := .tuple #[.agg #[.int .i64 (matStack (insTo ds q)).rows, .int .i64 (matStack (insTo ds q)).cols, .slice a5 n5 k5, .int .i64 (matStack (wantsTo ds q)).rows, .int .i64 (matStack (wantsTo ds q)).cols, .slice a6 n6 k6], .nilIface]) (by simp [results, Tryd.results16, go_sem, B2c, B2z, B2k]) rfl ⟨_, by rw [HJ.out]; rfl, by rw [joined_ok HJ.out, HLN.out]; exact ⟨a5, n5, k5, b5, o5, a6, n6, k6, b6, o6, rfl, (by repeat (first | fail | (with_reducible exact x5b) | (with_reducible refine IntsAt.alloc ?_ _) | (with_reducible refine IntsAt.drewN ?_ _) | (with_reducible refine IntsAt.drew ?_) | (with_reducible refine IntsAt.set ?_ ?_ _; rotate_left 1; (intro h0; have hq0 := l5 h0; first | (dsimp only; omega) | omega | (simp; omega) | simp)) | exact x5b)), (by repeat (first | fail | (with_reducible exact x6) | (with_reducible refine IntsAt.alloc ?_ _) | (with_reducible refine IntsAt.drewN ?_ _) | (with_reducible refine IntsAt.drew ?_) | (with_reducible refine IntsAt.set ?_ ?_ _; rotate_left 1; (intro h0; have hq0 := l6 h0; first | (dsimp only; omega) | omega | (simp; omega) | simp)) | exact x6))⟩, (by repeat (first | fail | (with_reducible exact Below.refl _ _) | (with_reducible exact hbe) | (with_reducible refine Below.al ?_ _) | (with_reducible refine Below.drN ?_ _) | (with_reducible refine Below.drew ?_) | (with_reducible refine Below.st ?_ ?_ _; rotate_left 1; (first | (dsimp only; omega) | omega | (simp; omega) | simp)) | exact Below.refl _ _ | exact hbe))⟩
        · have H2 := Lib.hid h2
          have HJ : Hid (joinFault ds = stackFault (wantsTo ds q)) := Lib.hid (joinFault_stacks HLN.out HNZ.out HZ.out H1.out)
          clear h2
          go_wp2_with fail
          refine (matStack_any av q cv b2 0 (wantsTo ds q) _ m3.mats hn HF2.out hn0).mono ?_
          rintro e w6 ⟨_, hst, hb6⟩
          obtain rfl := hst H2.out
          clear hst
          have B2n : Box w6 w.heap.size [.int .i64 0, .int .i64 0, .slice none 0 0, .int .i64 0, .int .i64 0, .slice none 0 0] 50 := (B2.alloc _).keep hb6
          have hbe : Below w.heap.size w w6 := (by repeat (first | fail | (with_reducible exact Below.refl _ _) | (with_reducible exact hbr) | (with_reducible refine Below.al ?_ _) | (with_reducible refine Below.drN ?_ _) | (with_reducible refine Below.drew ?_) | (with_reducible refine Below.st ?_ ?_ _; rotate_left 1; (first | (dsimp only; omega) | omega | (simp; omega) | simp)) | (with_reducible refine Below.go ?_ hb6) | (with_reducible refine Below.go ?_ hb5) | exact Below.refl _ _ | exact hbr))
          clear B2 B2c B2f B2z B2k P9n
          have B2 := B2n
          have B2c := B2.cell
          have B2f := B2.thawed
          have B2z := B2.lt
          have B2k := lt_add B2z
          go_wp2
          refine bodyPost_ret (v := .tuple #[.agg #[.int .i64 0, .int .i64 0, .slice none 0 0, .int .i64 0, .int .i64 0, .slice none 0 0], .iface 30 (.int .i64 (stackFault (wantsTo ds q)))]) (by simp [results, Tryd.results16, go_sem, B2c, B2z, B2k]) rfl ⟨_, by rw [HJ.out, errV_err H2.out], by rw [joined_bad (by rw [HJ.out]; exact H2.out)]; exact bat_none _, (by repeat (first | fail | (with_reducible exact Below.refl _ _) | (with_reducible exact hbe) | (with_reducible refine Below.al ?_ _) | (with_reducible refine Below.drN ?_ _) | (with_reducible refine Below.drew ?_) | (with_reducible refine Below.st ?_ ?_ _; rotate_left 1; (first | (dsimp only; omega) | omega | (simp; omega) | simp)) | exact Below.refl _ _ | exact hbe))⟩
      · have H1 := Lib.hid h1
        have HJ : Hid (joinFault ds = stackFault (insTo ds q)) := Lib.hid (joinFault_ins HLN.out HNZ.out HZ.out h1)
        clear h1
        go_wp2_with fail
        refine (matStack_any au q cu b1 0 (insTo ds q) _ r1.mats hn HF1.out hn0).mono ?_
        rintro e w5 ⟨_, hst, hb5⟩
        obtain rfl := hst H1.out
        clear hst
        have hkw5 : Below wr.heap.size wr w5 := (by repeat (first | fail | (with_reducible exact Below.refl _ _) | (with_reducible refine Below.al ?_ _) | (with_reducible refine Below.drN ?_ _) | (with_reducible refine Below.drew ?_) | (with_reducible refine Below.st ?_ ?_ _; rotate_left 1; (first | (dsimp only; omega) | omega | (simp; omega) | simp)) | (with_reducible refine Below.go ?_ hb5) | exact Below.refl _ _))
        replace B2 := B2.keep hkw5
        replace B2c := B2.cell
        replace B2f := B2.thawed
        replace B2z := B2.lt
        replace B2k := lt_add B2z
        have hbe : Below w.heap.size w w5 := (by repeat (first | fail | (with_reducible exact Below.refl _ _) | (with_reducible exact hbr) | (with_reducible refine Below.al ?_ _) | (with_reducible refine Below.drN ?_ _) | (with_reducible refine Below.drew ?_) | (with_reducible refine Below.st ?_ ?_ _; rotate_left 1; (first | (dsimp only; omega) | omega | (simp; omega) | simp)) | (with_reducible refine Below.go ?_ hb5) | exact Below.refl _ _ | exact hbr))
        go_wp2
        refine bodyPost_ret (v := .tuple #[.agg #[.int .i64 0, .int .i64 0, .slice none 0 0, .int .i64 0, .int .i64 0, .slice none 0 0], .iface 30 (.int .i64 (stackFault (insTo ds q)))]) (by simp [results, Tryd.results16, go_sem, B2c, B2z, B2k]) rfl ⟨_, by rw [HJ.out, errV_err H1.out], by rw [joined_bad (by rw [HJ.out]; exact H1.out)]; exact bat_none _, (by repeat (first | fail | (with_reducible exact Below.refl _ _) | (with_reducible exact hbe) | (with_reducible refine Below.al ?_ _) | (with_reducible refine Below.drN ?_ _) | (with_reducible refine Below.drew ?_) | (with_reducible refine Below.st ?_ ?_ _; rotate_left 1; (first | (dsimp only; omega) | omega | (simp; omega) | simp)) | exact Below.refl _ _ | exact hbe))⟩
end Go.Proofs.YtikcdjibflleeaaDoor
