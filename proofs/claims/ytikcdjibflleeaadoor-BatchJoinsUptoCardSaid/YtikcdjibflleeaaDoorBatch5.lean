/- Contracts of package batch: Join, where nothing is wrong. -/
import Derived.Test.YtikcdjibflleeaaDoorBatch4
import Derived.Test.YtikcdjibflleeaaDoorMat7
import Derived.Test.YtikcdjibflleeaaDoorNet2
import Derived.Test.YtikcdjibflleeaaDoorOwnOne
set_option linter.unusedVariables false
set_option linter.unusedSimpArgs false
set_option linter.unusedSectionVars false
namespace Gal
open Go Go.RowKit
def bx (ds : List Bat) (i : Nat) : Bat := ds[i]?.getD ⟨Mat.none, Mat.none⟩
theorem bx_get {ds : List Bat} {i : Nat} (h : i < ds.length) : ds[i]? = some (bx ds i) := by unfold bx; rw [List.getElem?_eq_getElem h]; rfl
def insTo (ds : List Bat) (k : Nat) : List Mat := (List.range k).map fun i => (bx ds i).I
def wantsTo (ds : List Bat) (k : Nat) : List Mat := (List.range k).map fun i => (bx ds i).W
theorem insTo_succ (ds : List Bat) (k : Nat) : insTo ds (k + 1) = insTo ds k ++ [(bx ds k).I] := by simp [insTo, List.range_succ]
theorem wantsTo_succ (ds : List Bat) (k : Nat) : wantsTo ds (k + 1) = wantsTo ds k ++ [(bx ds k).W] := by simp [wantsTo, List.range_succ]
theorem insTo_length (ds : List Bat) (k : Nat) : (insTo ds k).length = k := by simp [insTo]
theorem wantsTo_length (ds : List Bat) (k : Nat) : (wantsTo ds k).length = k := by simp [wantsTo]
theorem OwnRow.alloc' {α : Type} {f : Form α} {E : TypeId} {w : World} {base : Nat} {F : Nat → Prop} {v : Value} {xs : List α} (h : OwnRow f E w base F v xs) (o : Obj) : OwnRow f E (w.alloc o) base F v xs := h.keep ((Below.refl w.heap.size w).alloc (Nat.le_refl _) o)
end Gal
namespace Go.Proofs.YtikcdjibflleeaaDoor
open Go.RowKit Gal
set_option maxRecDepth 100000
set_option maxHeartbeats 2000000
theorem batchJoin_ok (ds : List Bat) (F : Nat → Prop) (a : Option Addr) (n k b o : Nat) (w : World) (h : RowAt Form.bat w F a n k b o ds) (hn0 : 0 < n) (hn : n ≤ 1048576) (hd : ∀ i, i < n → (bx ds i).fault = 0)
    (h1 : stackFault (insTo ds n) = 0) (h2 : stackFault (wantsTo ds n) = 0) :
    Calls Tryd.prog 16 #[.slice a n k] w fun e w' => ∃ v, e = .returned (.tuple #[v, .nilIface]) ∧ BatAt w' v ⟨matStack (insTo ds n), matStack (wantsTo ds n)⟩ ∧ Below w.heap.size w w' := by
  obtain ⟨i0, hi, hz0, hz1, hz2⟩ := info_parts info_mat
  have hl := h.len
  obtain rfl := h.ptr hn0
  have hbs := h.lt hn0
  have F1 := Lib.hid (stackFault_ok h1).1
  have F2 := Lib.hid (stackFault_ok h2).1
  have H1 := Lib.hid h1
  have H2 := Lib.hid h2
  have HD := Lib.hid hd
  have hne : ((n : Int) == 0) = false := by simp; omega
  clear h1 h2 hd
  go_enter Tryd.func16, Tryd.ntmps16
  go_wp2
  go_loopw [4, 5, 19] (fun u v j wr => ∃ q : Nat, q ≤ n ∧ j = .int .i64 q ∧ OwnRow Form.mat 25 wr (w.heap.size + 1) (oldB w.heap.size) u (insTo ds q) ∧ OwnRow Form.mat 25 wr (w.heap.size + 1) (oldB w.heap.size) v (wantsTo ds q) ∧ (∀ c, u.ownBlock = some c → v.ownBlock ≠ some c) ∧
      Below w.heap.size w wr ∧ Box wr w.heap.size [.int .i64 0, .int .i64 0, .slice none 0 0, .int .i64 0, .int .i64 0, .slice none 0 0] 50) (fun _ _ j _ => n - (intOf j).toNat)
  case atStart => exact ⟨0, Nat.zero_le _, rfl, OwnRow.nil _ _ _ _ _, OwnRow.nil _ _ _ _ _, fun c hc => by simp [Value.ownBlock] at hc, (by repeat (first | fail | (with_reducible exact Below.refl _ _) | (with_reducible refine Below.al ?_ _) | (with_reducible refine Below.drN ?_ _) | (with_reducible refine Below.drew ?_) | (with_reducible refine Below.st ?_ ?_ _; rotate_left 1; (first | (dsimp only; omega) | omega | (simp; omega) | simp)) | exact Below.refl _ _)), Box.new _ _ _⟩
  case round =>
    obtain ⟨q, hq, rfl, hu, hv, huv, hbr, B2⟩ := hrel
    have B2 := B2
    have B2c := B2.cell
    have B2f := B2.thawed
    have B2z := B2.lt
    have B2k := lt_add B2z
    obtain ⟨au, cu, eu⟩ := hu.slice
    rw [insTo_length] at eu
    subst eu
    obtain ⟨av, cv, ev⟩ := hv.slice
    rw [wantsTo_length] at ev
    subst ev
    have LU := Lib.hid (insTo_length ds q)
    have LV := Lib.hid (wantsTo_length ds q)
    have hru : ∀ r, (Value.slice au q cu).ownBlock = some r → w.heap.size + 1 ≤ r ∧ r < wr.heap.size := fun r hr => hu.base_le r hr
    have hrv : ∀ r, (Value.slice av q cv).ownBlock = some r → w.heap.size + 1 ≤ r ∧ r < wr.heap.size := fun r hr => hv.base_le r hr
    by_cases hlt : q < n
    · obtain ⟨p1, p2, p3, p4, p5, p6, p7, p8, p9, p10, c0, c1, c2, c3, c4, c5, y0, y1⟩ := bat_cells h (bx_get (ds := ds) (i := q) (by omega))
      have ly0 := y0.lt
      have ly1 := y1.lt
      have d0 := (hbr.cell (p := ⟨b, o + q * 6, none⟩) hbs).trans c0
      have d1 := (hbr.cell (p := ⟨b, o + q * 6 + 1, none⟩) hbs).trans c1
      have d2 := (hbr.cell (p := ⟨b, o + q * 6 + 2, none⟩) hbs).trans c2
      have d3 := (hbr.cell (p := ⟨b, o + q * 6 + 3, none⟩) hbs).trans c3
      have d4 := (hbr.cell (p := ⟨b, o + q * 6 + 4, none⟩) hbs).trans c4
      have d5 := (hbr.cell (p := ⟨b, o + q * 6 + 5, none⟩) hbs).trans c5
      clear c0 c1 c2 c3 c4 c5
      have z0 := y0.keep hbr
      have z1 := y1.keep hbr
      have HE : Hid (errV (bx ds q).fault = .nilIface) := Lib.hid (errV_nil (HD.out q hlt))
      go_wp2_with fail
      refine (batchCheck_any (bx ds q) _ _ ⟨_, _, _, _, _, _, _, _, _, _, rfl, z0.alloc _, z1.alloc _⟩).mono ?_
      rw [HE.out]
      rintro e w1 ⟨rfl, hb1⟩
      have hbA : Below wr.heap.size wr w1 := (by repeat (first | fail | (with_reducible exact Below.refl _ _) | (with_reducible refine Below.al ?_ _) | (with_reducible refine Below.drN ?_ _) | (with_reducible refine Below.drew ?_) | (with_reducible refine Below.st ?_ ?_ _; rotate_left 1; (first | (dsimp only; omega) | omega | (simp; omega) | simp)) | (with_reducible refine Below.go ?_ hb1) | exact Below.refl _ _))
      have B7 : Box w1 wr.heap.size [.int .i64 (bx ds q).I.rows, .int .i64 (bx ds q).I.cols, .slice p1 p2 p3, .int .i64 (bx ds q).W.rows, .int .i64 (bx ds q).W.cols, .slice p6 p7 p8] 50 := Box.keep (by repeat (first | fail | (with_reducible refine (Box.new' _ wr.heap.size _ _ ?_); (simp; done)) | (with_reducible refine Box.alloc ?_ _) | (with_reducible refine Box.drewN ?_ _) | (with_reducible refine Box.drew ?_) | (with_reducible refine Box.far ?_ ?_ _; rotate_left 1; (first | (dsimp only; omega) | omega | (simp; omega) | simp)))) hb1
      have hkw1 : Below wr.heap.size wr w1 := (by repeat (first | fail | (with_reducible exact Below.refl _ _) | (with_reducible refine Below.al ?_ _) | (with_reducible refine Below.drN ?_ _) | (with_reducible refine Below.drew ?_) | (with_reducible refine Below.st ?_ ?_ _; rotate_left 1; (first | (dsimp only; omega) | omega | (simp; omega) | simp)) | (with_reducible refine Below.go ?_ hbA) | exact Below.refl _ _))
      replace B2 := B2.keep hkw1
      replace B2c := B2.cell
      replace B2f := B2.thawed
      replace B2z := B2.lt
      replace B2k := lt_add B2z
      replace z0 := z0.keep hkw1
      replace z1 := z1.keep hkw1
      replace hu := hu.keep hbA
      replace hv := hv.keep hbA
      have B7 := B7
      have B7c := B7.cell
      have B7f := B7.thawed
      have B7z := B7.lt
      have B7k := lt_add B7z
      have hbw1 : Below w.heap.size w w1 := (by repeat (first | fail | (with_reducible exact Below.refl _ _) | (with_reducible exact hbr) | (with_reducible refine Below.al ?_ _) | (with_reducible refine Below.drN ?_ _) | (with_reducible refine Below.drew ?_) | (with_reducible refine Below.st ?_ ?_ _; rotate_left 1; (first | (dsimp only; omega) | omega | (simp; omega) | simp)) | (with_reducible refine Below.go ?_ hbA) | exact Below.refl _ _ | exact hbr))
      have hz1w : wr.heap.size < w1.heap.size := B7z
      clear d0 d1 d2 d3 d4 d5
      go_wp2_with (at_builtin; refine wpList_push rfl (.tmp 29) (.tmp 32) 22 rfl Form.mat (w.heap.size + 1) (oldB w.heap.size) 25 i0 (.agg #[.int .i64 0, .int .i64 0, .slice none 0 0]) 40 Tryd.underlying22 hi hz0 hz1 hz2 rfl (by decide) (.slice au q cu) (insTo ds q) rfl (hu.keep ((Below.refl _ _).alloc (Nat.le_refl _) _)) w1.heap.size 1 [.int .i64 (bx ds q).I.rows, .int .i64 (bx ds q).I.cols, .slice p1 p2 p3] 25 (bx ds q).I rfl (Box.new _ _ _) ⟨p1, p2, p3, p4, p5, rfl, fun h => ⟨ly0 h, fun e => by have := (hru _ e).1; have := ly0 h; omega⟩, z0.alloc _⟩ (by rw [LU.out]; omega) (by rw [LU.out]; unfold maxLen; omega) (by simp; omega) _ rfl ?_)
      intro g2 capg2 w2 hu2 hgrow2 hgv2 hgl2
      have n1 : ∀ c, (Value.slice av q cv).ownBlock = some c → some c ≠ (Value.slice au q cu).ownBlock := fun c hc e => huv c e.symm hc
      have hv2 := (hv.alloc' (.cells #[.int .i64 (bx ds q).I.rows, .int .i64 (bx ds q).I.cols, .slice p1 p2 p3] 25)).grown hgrow2 n1 (fun c hc _ e => by have := (hru _ e.symm).1; unfold oldB at hc; omega)
      have B7b := (B7.alloc (.cells #[.int .i64 (bx ds q).I.rows, .int .i64 (bx ds q).I.cols, .slice p1 p2 p3] 25)).grown hgrow2 (fun e => by have := (hru _ e.symm).2; omega)
      have B2b := (B2.alloc (.cells #[.int .i64 (bx ds q).I.rows, .int .i64 (bx ds q).I.cols, .slice p1 p2 p3] 25)).grown hgrow2 (fun e => by have := (hru _ e.symm).1; omega)
      have z1b := (z1.alloc (.cells #[.int .i64 (bx ds q).I.rows, .int .i64 (bx ds q).I.cols, .slice p1 p2 p3] 25)).grown hgrow2 (fun h e => by have := (hru _ e.symm).1; have := ly1 h; omega)
      have hbw2 : Below w.heap.size w w2 := Below.grown (Below.al hbw1 _) hgrow2 (by simp; omega) (fun r hr => by have := (hru r hr).1; omega)
      have hz2w : w1.heap.size < w2.heap.size := by have := hgrow2.size; simp at this; omega
      have hg2r : g2 ≠ wr.heap.size ∧ w.heap.size + 1 ≤ g2 := by
        rcases hgv2 with e | e
        · have := hru _ e; omega
        · (try simp at e); omega
      clear B7 B7c B7f B7z B7k B2 B2c B2f B2z B2k z1 z0 hv hu
      have B7 := B7b
      have B7c := B7.cell
      have B7f := B7.thawed
      have B7z := B7.lt
      have B7k := lt_add B7z
      have B2 := B2b
      have B2c := B2.cell
      have B2f := B2.thawed
      have B2z := B2.lt
      have B2k := lt_add B2z
      go_wp2_with (at_builtin; refine wpList_push rfl (.tmp 34) (.tmp 37) 22 rfl Form.mat (w.heap.size + 1) (oldB w.heap.size) 25 i0 (.agg #[.int .i64 0, .int .i64 0, .slice none 0 0]) 40 Tryd.underlying22 hi hz0 hz1 hz2 rfl (by decide) (.slice av q cv) (wantsTo ds q) rfl (hv2.keep ((Below.refl _ _).alloc (Nat.le_refl _) _)) w2.heap.size 1 [.int .i64 (bx ds q).W.rows, .int .i64 (bx ds q).W.cols, .slice p6 p7 p8] 25 (bx ds q).W rfl (Box.new _ _ _) ⟨p6, p7, p8, p9, p10, rfl, fun h => ⟨ly1 h, fun e => by have := (hrv _ e).1; have := ly1 h; omega⟩, z1b.alloc _⟩ (by rw [LV.out]; omega) (by rw [LV.out]; unfold maxLen; omega) (by simp; omega) _ rfl ?_)
      intro g3 capg3 w3 hv3 hgrow3 hgv3 hgl3
      have hu3 := (hu2.alloc' (.cells #[.int .i64 (bx ds q).W.rows, .int .i64 (bx ds q).W.cols, .slice p6 p7 p8] 25)).grown hgrow3 (fun c hc e => by
        simp [Value.ownBlock] at hc
        subst hc
        rcases hgv2 with e2 | e2
        · exact huv _ e2 e.symm
        · have := (hrv _ e.symm).2; (try simp at e2); omega) (fun c hc _ e => by have := (hrv _ e.symm).1; unfold oldB at hc; omega)
      have B2c3 := (B2.alloc (.cells #[.int .i64 (bx ds q).W.rows, .int .i64 (bx ds q).W.cols, .slice p6 p7 p8] 25)).grown hgrow3 (fun e => by have := (hrv _ e.symm).1; omega)
      have hbw3 : Below w.heap.size w w3 := Below.grown (Below.al hbw2 _) hgrow3 (by simp; omega) (fun r hr => by have := (hrv r hr).1; omega)
      have hdis : ∀ c, (Value.slice (some ⟨g2, 0, none⟩) ((insTo ds q).length + 1) capg2).ownBlock = some c → (Value.slice (some ⟨g3, 0, none⟩) ((wantsTo ds q).length + 1) capg3).ownBlock ≠ some c := fun c hc e => by
        simp [Value.ownBlock] at hc e
        subst hc
        subst e
        rcases hgv3 with e3 | e3
        · rcases hgv2 with e2 | e2
          · exact huv _ e2 e3
          · have := (hrv _ e3).2; (try simp at e2); omega
        · (try simp at e3); omega
      go_wp2
      go_roundw
      case rel => exact ⟨q + 1, by omega, by go_num, by rw [insTo_succ]; exact hu3, by rw [wantsTo_succ]; exact hv3, hdis, hbw3, B2c3⟩
      case measure => simp [intOf]; omega
    · obtain rfl : q = n := by omega
      obtain ⟨a1, k1, b1, e1, hb1', r1⟩ := hu.row (G := anyB) (fun _ _ _ => trivial) (fun _ _ => trivial)
      obtain ⟨a2, k2, b2, e2, hb2', r2⟩ := hv.row (G := anyB) (fun _ _ _ => trivial) (fun _ _ => trivial)
      rw [insTo_length] at e1 hb1' r1
      rw [wantsTo_length] at e2 hb2' r2
      obtain ⟨rfl, rfl⟩ : au = a1 ∧ cu = k1 := by simpa using e1
      obtain ⟨rfl, rfl⟩ : av = a2 ∧ cv = k2 := by simpa using e2
      have m2 := r2.mats
      clear e1 e2 hu hv huv
      go_wp2_with fail
      refine (matStack_any au q cu b1 0 (insTo ds q) _ r1.mats hn F1.out hn0).mono ?_
      rintro e w5 ⟨hst, _, hb5⟩
      obtain ⟨v5, rfl, a5, n5, k5, b5, o5, rfl, hn5, x5⟩ := hst H1.out
      clear hst
      have hwz : w.heap.size < wr.heap.size := B2z
      have hkw5 : Below wr.heap.size wr w5 := (by repeat (first | fail | (with_reducible exact Below.refl _ _) | (with_reducible refine Below.al ?_ _) | (with_reducible refine Below.drN ?_ _) | (with_reducible refine Below.drew ?_) | (with_reducible refine Below.st ?_ ?_ _; rotate_left 1; (first | (dsimp only; omega) | omega | (simp; omega) | simp)) | (with_reducible refine Below.go ?_ hb5) | exact Below.refl _ _))
      replace B2 := B2.keep hkw5
      replace B2c := B2.cell
      replace B2f := B2.thawed
      replace B2z := B2.lt
      replace B2k := lt_add B2z
      have m3 := (r2.keep hb5).alloc (.cells #[.int .i64 (matStack (insTo ds q)).rows, .int .i64 (matStack (insTo ds q)).cols, .slice a5 n5 k5] 25)
      go_wp2_with fail
      refine (matStack_any av q cv b2 0 (wantsTo ds q) _ m3.mats hn F2.out hn0).mono ?_
      rintro e w6 ⟨hst, _, hb6⟩
      obtain ⟨v6, rfl, a6, n6, k6, b6, o6, rfl, hn6, x6⟩ := hst H2.out
      clear hst
      have P9 : Box w6 w5.heap.size [.int .i64 (matStack (insTo ds q)).rows, .int .i64 (matStack (insTo ds q)).cols, .slice a5 n5 k5] 25 := Box.keep (Box.new w5 _ _) hb6
      have l5 : 0 < n5 → w.heap.size < b5 := fun h => by have := hn5 h; omega
      have hz56 : w5.heap.size < w6.heap.size := P9.lt
      have hz5 : wr.heap.size ≤ w5.heap.size := hb5.size
      have l6 : 0 < n6 → w.heap.size < b6 := fun h => by have := hn6 h; simp at this; omega
      have x5b := (x5.alloc (.cells #[.int .i64 (matStack (insTo ds q)).rows, .int .i64 (matStack (insTo ds q)).cols, .slice a5 n5 k5] 25)).keep hb6
      have B2n : Box w6 w.heap.size [.int .i64 0, .int .i64 0, .slice none 0 0, .int .i64 0, .int .i64 0, .slice none 0 0] 50 := (B2.alloc _).keep hb6
      have hbe : Below w.heap.size w w6 := (by repeat (first | fail | (with_reducible exact Below.refl _ _) | (with_reducible exact hbr) | (with_reducible refine Below.al ?_ _) | (with_reducible refine Below.drN ?_ _) | (with_reducible refine Below.drew ?_) | (with_reducible refine Below.st ?_ ?_ _; rotate_left 1; (first | (dsimp only; omega) | omega | (simp; omega) | simp)) | (with_reducible refine Below.go ?_ hb6) | (with_reducible refine Below.go ?_ hb5) | exact Below.refl _ _ | exact hbr))
      clear B2 B2c B2f B2z B2k
      have B2 := B2n
      have B2c := B2.cell
      have B2f := B2.thawed
      have B2z := B2.lt
      have B2k := lt_add B2z
      have P9 := P9
      have P9c := P9.cell
      have P9f := P9.thawed
      have P9z := P9.lt
      have P9k := lt_add P9z
      go_wp2
      refine bodyPost_ret (v := .tuple #[.agg #[.int .i64 (matStack (insTo ds q)).rows, .int .i64 (matStack (insTo ds q)).cols, .slice a5 n5 k5, .int .i64 (matStack (wantsTo ds q)).rows, .int .i64 (matStack (wantsTo ds q)).cols, .slice a6 n6 k6], .nilIface]) (by simp [results, Tryd.results16, go_sem, B2c, B2z, B2k]) rfl ⟨_, rfl, ⟨a5, n5, k5, b5, o5, a6, n6, k6, b6, o6, rfl, ?_, ?_⟩, (by repeat (first | fail | (with_reducible exact Below.refl _ _) | (with_reducible exact hbe) | (with_reducible refine Below.al ?_ _) | (with_reducible refine Below.drN ?_ _) | (with_reducible refine Below.drew ?_) | (with_reducible refine Below.st ?_ ?_ _; rotate_left 1; (first | (dsimp only; omega) | omega | (simp; omega) | simp)) | exact Below.refl _ _ | exact hbe))⟩
      · exact (by repeat (first | fail | (with_reducible exact x5b) | (with_reducible refine IntsAt.alloc ?_ _) | (with_reducible refine IntsAt.drewN ?_ _) | (with_reducible refine IntsAt.drew ?_) | (with_reducible refine IntsAt.set ?_ ?_ _; rotate_left 1; (intro h0; have hq0 := l5 h0; first | (dsimp only; omega) | omega | (simp; omega) | simp)) | exact x5b))
      · exact (by repeat (first | fail | (with_reducible exact x6) | (with_reducible refine IntsAt.alloc ?_ _) | (with_reducible refine IntsAt.drewN ?_ _) | (with_reducible refine IntsAt.drew ?_) | (with_reducible refine IntsAt.set ?_ ?_ _; rotate_left 1; (intro h0; have hq0 := l6 h0; first | (dsimp only; omega) | omega | (simp; omega) | simp)) | exact x6))
end Go.Proofs.YtikcdjibflleeaaDoor
