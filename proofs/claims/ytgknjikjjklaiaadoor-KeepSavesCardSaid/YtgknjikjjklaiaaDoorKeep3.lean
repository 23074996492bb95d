/- Contracts of package keep: Save. -/
import Derived.Test.YtgknjikjjklaiaaDoorPKeep3
import Derived.Test.YtgknjikjjklaiaaDoorTrain1
import Derived.Test.YtgknjikjjklaiaaDoorCell7
import Derived.Deep.RegionHeld3
import Derived.Deep.CutBlock
import Derived.Deep.DeepCutAuto
set_option linter.unusedVariables false
set_option linter.unusedSimpArgs false
set_option linter.unusedSectionVars false
set_option maxRecDepth 100000
namespace Gal
open Go Go.RowKit
theorem cells_14 {w : World} {p q c j : Nat} {s0 s1 s2 l0 l1 l2 l3 l4 l5 l6 x0 x1 x2 x3 x4 x5 : Value} {T U : TypeId} (s : Box w p [s0, s1, s2] T) (l : Box w q [l0, l1, l2, l3, l4, l5, l6] U) (m : Cells6 w c j x0 x1 x2 x3 x4 x5) :
    w.cell? ⟨p, 1, none⟩ = some s1 ∧ (w.cell? ⟨q, 1, none⟩ = some l1 ∧ w.cell? ⟨q, 2, none⟩ = some l2 ∧ w.cell? ⟨q, 3, none⟩ = some l3 ∧ w.cell? ⟨q, 4, none⟩ = some l4 ∧ w.cell? ⟨q, 5, none⟩ = some l5 ∧ w.cell? ⟨q, 6, none⟩ = some l6) ∧
      w.cell? ⟨c, j, none⟩ = some x0 ∧ w.cell? ⟨c, j + 1, none⟩ = some x1 ∧ w.cell? ⟨c, j + 2, none⟩ = some x2 ∧ w.cell? ⟨c, j + 3, none⟩ = some x3 ∧ w.cell? ⟨c, j + 4, none⟩ = some x4 ∧ w.cell? ⟨c, j + 5, none⟩ = some x5 :=
  ⟨s.cell 1, ⟨l.cell 1, l.cell 2, l.cell 3, l.cell 4, l.cell 5, l.cell 6⟩, m.c0, m.c1, m.c2, m.c3, m.c4, m.c5⟩
end Gal
namespace Go.Proofs.YtgknjikjjklaiaaDoor
open Go.RowKit Gal
set_option maxHeartbeats 8000000
/-- what lay there ahead of the pen's own blocks is left alone -/
theorem PenAt.low {w : World} {R base p : Nat} {v : Value} {xs : List Nat} (h : PenAt w R base v xs) (hR : base ≤ R) (hp : p < base) : Apart R v p := ⟨by omega, fun e => by have := (h.2.1.base_le p e).1; omega⟩
theorem keepSave_bad (s : Sta) (F G : Nat → Prop) (a0 a1 : Option Addr) (n n1 k0 k1 b0 b1 o0 o1 : Nat) (w : World) (h0 : RowAt Form.lay w F a0 n k0 b0 o0 s.N) (h1 : RowAt Form.grd w G a1 n1 k1 b1 o1 s.V) (hf : s.fault ≠ 0) :
    Calls Tryd.prog 24 #[.agg #[.slice a0 n k0, .slice a1 n1 k1, .int .i64 s.steps]] w fun e w' => e = .returned (.tuple #[.slice none 0 0, errV s.fault]) ∧ Below w.heap.size w w' := by
  have HE : Hid (errV s.fault = .iface 32 (.int .i64 s.fault)) := Lib.hid (errV_err hf)
  clear hf
  go_enter Tryd.func24, Tryd.ntmps24
  go_wp2_with fail
  refine (trainCheck_any s F G _ _ _ _ _ _ _ _ _ _ _ (h0.alloc _) (h1.alloc _)).mono ?_
  rw [HE.out]
  rintro e w1 ⟨rfl, hb1⟩
  have hbe : Below w.heap.size w w1 := (by repeat (first | fail | (with_reducible exact Below.refl _ _) | (with_reducible refine Below.al ?_ _) | (with_reducible refine Below.drN ?_ _) | (with_reducible refine Below.drew ?_) | (with_reducible refine Below.st ?_ ?_ _; rotate_left 1; (first | (dsimp only; omega) | omega | (simp; omega) | simp)) | (with_reducible refine Below.go ?_ hb1) | exact Below.refl _ _))
  go_wp2
  refine bodyPost_ret (v := .tuple #[.slice none 0 0, .iface 32 (.int .i64 s.fault)]) (by simp [results, Tryd.results24, go_sem]) rfl ⟨by rw [HE.out], hbe⟩
theorem keepSave_ok (s : Sta) (F G : Nat → Prop) (a0 a1 : Option Addr) (n n1 k0 k1 b0 b1 o0 o1 : Nat) (w : World) (h0 : RowAt Form.lay w F a0 n k0 b0 o0 s.N) (h1 : RowAt Form.grd w G a1 n1 k1 b1 o1 s.V) (hf : s.fault = 0) :
    Calls Tryd.prog 24 #[.agg #[.slice a0 n k0, .slice a1 n1 k1, .int .i64 s.steps]] w fun e w' => ∃ v err, e = .returned (.tuple #[v, err]) ∧ Below w.heap.size w w' ∧
      (((staBytes s).length ≤ 100000 ∧ err = .nilIface ∧ OwnRow Form.u8 5 w' w.heap.size noK v (staBytes s)) ∨ (100000 < (staBytes s).length ∧ v = .slice none 0 0 ∧ err = errV 3)) := by
  have HE : Hid (errV s.fault = .nilIface) := Lib.hid (errV_nil hf)
  obtain ⟨hn12, hst0, hst1, hlf, hvl, hvf⟩ := Sta.fault_ok hf
  have hl0 := h0.len
  have hl1 := h1.len
  obtain rfl : n1 = n := by omega
  have HPT : Hid (∀ k, k < n1 → 1 ≤ (lx s.N k).kind ∧ (lx s.N k).kind ≤ 4 ∧ ∀ j, (q4 (lx s.N k) (gx s.V k) j).fault = 0) := Lib.hid (fun k hk => st_part hf (by omega))
  have HNL : Hid (∀ k, k ≤ n1 → ((netNums s.N s.V k).flatMap seven).length ≤ 10449 * k) := Lib.hid (fun k hk => netNums_len hf k (by omega))
  have HHL := Lib.hid (headOf_len hf)
  have HHD : Hid (headOf s = [71, 1] ++ seven s.steps.toNat ++ seven n1) := Lib.hid (by unfold headOf; rw [hl0])
  have HBY : Hid (staBytes s = withSums (headOf s ++ (netNums s.N s.V n1).flatMap seven)) := Lib.hid (by rw [staBytes_is, hl0])
  have HL1 := Lib.hid hl1
  have hn : n1 ≤ 12 := by omega
  obtain ⟨i0, hi, hz0, hz1, hz2⟩ := info_parts info_byte
  clear hf hlf hvl hvf hn12 hl0 hl1
  go_enter Tryd.func24, Tryd.ntmps24
  go_wp2_with fail
  refine (trainCheck_any s F G _ _ _ _ _ _ _ _ _ _ _ (h0.alloc _) (h1.alloc _)).mono ?_
  rw [HE.out]
  rintro e w1 ⟨rfl, hb1⟩
  have B1 := (Box.new w [.slice a0 n1 k0, .slice a1 n1 k1, .int .i64 s.steps] 62).keep hb1
  have B1c := B1.cell
  have B1f := B1.thawed
  have B1z := B1.lt
  have B1k := lt_add B1z
  have hbw1 : Below w.heap.size w w1 := (by repeat (first | fail | (with_reducible exact Below.refl _ _) | (with_reducible refine Below.al ?_ _) | (with_reducible refine Below.drN ?_ _) | (with_reducible refine Below.drew ?_) | (with_reducible refine Below.st ?_ ?_ _; rotate_left 1; (first | (dsimp only; omega) | omega | (simp; omega) | simp)) | (with_reducible refine Below.go ?_ hb1) | exact Below.refl _ _))
  clear hb1
  obtain ⟨B0, hB0⟩ : ∃ B0, w1.heap.size = B0 := ⟨_, rfl⟩
  obtain ⟨oa, hoa⟩ : ∃ oa : Obj, Obj.cells #[.int .u8 71, .int .u8 1] 5 = oa := ⟨_, rfl⟩
  obtain ⟨op, hop⟩ : ∃ op : Obj, Obj.cells #[.slice (some ⟨B0, 0, none⟩) 2 2] 97 = op := ⟨_, rfl⟩
  obtain ⟨w2, hw2⟩ : ∃ w2, (w1.alloc oa).alloc op = w2 := ⟨_, rfl⟩
  have hbx : Below w1.heap.size w1 w2 := by rw [← hw2]; exact (by repeat (first | fail | (with_reducible exact Below.refl _ _) | (with_reducible refine Below.al ?_ _) | (with_reducible refine Below.drN ?_ _) | (with_reducible refine Below.drew ?_) | (with_reducible refine Below.st ?_ ?_ _; rotate_left 1; (first | (dsimp only; omega) | omega | (simp; omega) | simp)) | exact Below.refl _ _))
  have hA : Box w2 B0 ([71, 1].map fun (x : Nat) => Value.int .u8 (x : Int)) 5 := by rw [← hw2, ← hoa, ← hB0]; exact (Box.new' _ _ [.int .u8 71, .int .u8 1] _ rfl).alloc _
  have hR : Box w2 (B0 + 1) [.slice (some ⟨B0, 0, none⟩) 2 2] 97 := by rw [← hw2, ← hop]; exact Box.new' _ _ [.slice (some ⟨B0, 0, none⟩) 2 2] _ (by simp [hB0])
  have hp2 : PenAt w2 (B0 + 1) B0 (.slice (some ⟨B0, 0, none⟩) 2 2) [71, 1] := ⟨hR, own_bytes hA (by decide) (Nat.le_refl _) (by decide), by simp [Value.ownBlock]⟩
  have hbw2 : Below w.heap.size w w2 := hbw1.trans (hbx.mono hbw1.size)
  have hB2 := B1.keep hbx
  have hwB : w.heap.size < B0 := by have := B1.lt; omega
  have hs2 : B0 + 2 ≤ w2.heap.size := by have := hR.lt; omega
  obtain ⟨v2, hv2⟩ : ∃ v2, Value.slice (some ⟨B0, 0, none⟩) 2 2 = v2 := ⟨_, rfl⟩
  have HOA := Lib.hid hoa
  have HOP := Lib.hid hop
  have HW2 := Lib.hid hw2
  have HB0 := Lib.hid hB0
  have S2 := B1.cell 2
  rw [hv2] at hp2
  have HV2 : Hid (∀ c, v2.ownBlock = some c → c = B0) := Lib.hid (fun c hc => by rw [← hv2] at hc; simpa [Value.ownBlock] using hc.symm)
  clear hoa hop hw2 hA hR hbx hbw1 hv2 B1 B1c B1f B1k
  go_wp2_with fail
  rw [HOA.out, HOP.out, HW2.out]
  refine (penNumber_any [71, 1] s.steps v2 (B0 + 1) B0 w2 ⟨hst0, by omega⟩ hp2 (by decide) (by omega)).mono ?_
  rintro e w3 ⟨v3, rfl, hp3, hg3⟩
  have hapS : Apart (B0 + 1) v2 w.heap.size := hp2.low (by omega) hwB
  have hB3 := hB2.pen hg3 hapS
  have hs3 : B0 ≤ w3.heap.size := by have := hg3.far.size; omega
  have S0 := hB3.cell 0
  have hsv := seven_9 (x := s.steps.toNat) (by omega)
  clear B1z S2
  go_wp2_with fail
  refine (penNumber_any _ (n1 : Int) v3 (B0 + 1) B0 w3 ⟨by omega, by omega⟩ hp3 (by simp only [List.length_append, List.length_cons, List.length_nil]; omega) hs3).mono ?_
  rintro e w4 ⟨v4, rfl, hp4, hg4⟩
  have hg := hg3.trans hg4
  have hB4 := hB2.pen hg hapS
  rw [Int.toNat_natCast, ← HHD.out] at hp4
  have hs4 : w2.heap.size ≤ w4.heap.size := hg.far.size
  clear S0 hp3 hg3 hg4 hB3 hs3 hsv hp2
  have S0 := hB4.cell 0
  go_wp2
  go_loopw [32] (fun i wr => ∃ (t : Nat) (u : Value), t ≤ n1 ∧ i = .int .i64 t ∧ PenAt wr (B0 + 1) B0 u (headOf s ++ (netNums s.N s.V t).flatMap seven) ∧ PenGo (B0 + 1) w2 wr v2 u) (fun i _ => n1 - (intOf i).toNat)
  case atStart => exact ⟨0, v4, Nat.zero_le _, rfl, by simpa [netNums] using hp4, hg⟩
  case round =>
    clear hB4 S0 hp4 hg hs4
    obtain ⟨t, u, ht, rfl, hpr, hgr⟩ := hrel
    have hBr := hB2.pen hgr hapS
    have hsr : w2.heap.size ≤ wr.heap.size := hgr.far.size
    have hbr : Below w.heap.size w wr := Far.toBelow hbw2 hgr.far hbw2.size (by
      rintro c (h | h)
      · omega
      · have := HV2.out c h; omega)
    by_cases hlt : t < n1
    · have hltI : (t : Int) < (n1 : Int) := by omega
      have hlt0 : (0 : Int) ≤ (t : Int) := by omega
      obtain rfl := h0.ptr (by omega)
      obtain rfl := h1.ptr (by omega)
      obtain ⟨a2, n2, k2, b2, o2, a3, n3, k3, b3, o3, c0, c1, c2, c3, c4, c5, c6, x1, x2⟩ := lay_cells h0 hlt
      obtain ⟨a4, n4, k4, b4, o4, a5, n5, k5, b5, o5, d0, d1, d2, d3, d4, d5, y1, y2⟩ := grd_cells h1 (gx_get (i := t) (by rw [HL1.out]; exact hlt))
      obtain ⟨kd0, kd1, hq4⟩ := HPT.out t hlt
      have hnl := HNL.out t ht
      have hhl := HHL.out
      have HNX := Lib.hid (netNums_next s.N s.V t (headOf s))
      obtain ⟨l, hl⟩ : ∃ l, lx s.N t = l := ⟨_, rfl⟩
      obtain ⟨g, hgx⟩ : ∃ g, gx s.V t = g := ⟨_, rfl⟩
      rw [hl] at c0 c1 c2 c4 c5 x1 x2 kd0 kd1 hq4 HNX
      rw [hgx] at hq4 d0 d1 d3 d4 y1 y2 HNX
      have HQ4 := Lib.hid hq4
      have HIX : Hid (∀ j, j < 4 → ∃ (a : Option Addr) (n k b o : Nat), [Value.int .i64 l.W.rows, .int .i64 l.W.cols, .slice a2 n2 k2, .int .i64 l.B.rows, .int .i64 l.B.cols, .slice a3 n3 k3, .int .i64 g.W.rows, .int .i64 g.W.cols, .slice a4 n4 k4, .int .i64 g.B.rows, .int .i64 g.B.cols, .slice a5 n5 k5][j * 3]? = some (.int .i64 (q4 l g j).rows) ∧ [Value.int .i64 l.W.rows, .int .i64 l.W.cols, .slice a2 n2 k2, .int .i64 l.B.rows, .int .i64 l.B.cols, .slice a3 n3 k3, .int .i64 g.W.rows, .int .i64 g.W.cols, .slice a4 n4 k4, .int .i64 g.B.rows, .int .i64 g.B.cols, .slice a5 n5 k5][j * 3 + 1]? = some (.int .i64 (q4 l g j).cols) ∧ [Value.int .i64 l.W.rows, .int .i64 l.W.cols, .slice a2 n2 k2, .int .i64 l.B.rows, .int .i64 l.B.cols, .slice a3 n3 k3, .int .i64 g.W.rows, .int .i64 g.W.cols, .slice a4 n4 k4, .int .i64 g.B.rows, .int .i64 g.B.cols, .slice a5 n5 k5][j * 3 + 2]? = some (.slice a n k) ∧ IntsAt w a n k b o (q4 l g j).cells) := Lib.hid (fun j hj => by
        match j, hj with
        | 0, _ => exact ⟨a2, n2, k2, b2, o2, rfl, rfl, rfl, x1⟩
        | 1, _ => exact ⟨a3, n3, k3, b3, o3, rfl, rfl, rfl, x2⟩
        | 2, _ => exact ⟨a4, n4, k4, b4, o4, rfl, rfl, rfl, y1⟩
        | 3, _ => exact ⟨a5, n5, k5, b5, o5, rfl, rfl, rfl, y2⟩)
      clear hl hgx hq4 x1 x2 y1 y2
      replace c0 := cell_keep' hbr c0
      replace c1 := cell_keep' hbr c1
      replace c2 := cell_keep' hbr c2
      replace c3 := cell_keep' hbr c3
      replace c4 := cell_keep' hbr c4
      replace c5 := cell_keep' hbr c5
      replace c6 := cell_keep' hbr c6
      have MV0 : Cells6 w b1 (o1 + t * 6) (.int .i64 g.W.rows) (.int .i64 g.W.cols) (.slice a4 n4 k4) (.int .i64 g.B.rows) (.int .i64 g.B.cols) (.slice a5 n5 k5) := ⟨d0, d1, d2, d3, d4, d5⟩
      clear d0 d1 d2 d3 d4 d5
      obtain ⟨ol, hol⟩ : ∃ ol : Obj, Obj.cells #[.int .i64 l.kind, .int .i64 l.W.rows, .int .i64 l.W.cols, .slice a2 n2 k2, .int .i64 l.B.rows, .int .i64 l.B.cols, .slice a3 n3 k3] 100 = ol := ⟨_, rfl⟩
      obtain ⟨wL, hwL⟩ : ∃ wL, wr.alloc ol = wL := ⟨_, rfl⟩
      obtain ⟨p, hp⟩ : ∃ p, wr.heap.size = p := ⟨_, rfl⟩
      have hbl : Below wr.heap.size wr wL := by rw [← hwL]; exact (by repeat (first | fail | (with_reducible exact Below.refl _ _) | (with_reducible refine Below.al ?_ _) | (with_reducible refine Below.drN ?_ _) | (with_reducible refine Below.drew ?_) | (with_reducible refine Below.st ?_ ?_ _; rotate_left 1; (first | (dsimp only; omega) | omega | (simp; omega) | simp)) | exact Below.refl _ _))
      have hLx : Box wL p [.int .i64 l.kind, .int .i64 l.W.rows, .int .i64 l.W.cols, .slice a2 n2 k2, .int .i64 l.B.rows, .int .i64 l.B.cols, .slice a3 n3 k3] 100 := by rw [← hwL, ← hol, ← hp]; exact Box.new _ _ _
      have hpL := hpr.keep hbl
      have hapL : Apart (B0 + 1) u p := hpr.apart (Nat.le_of_eq hp)
      have hBL := hBr.keep hbl
      have hbwL : Below w.heap.size w wL := hbr.trans (hbl.mono hbr.size)
      have hsL : w2.heap.size ≤ wL.heap.size := Nat.le_trans hsr hbl.size
      have HOL := Lib.hid hol
      have HWL := Lib.hid hwL
      have k0' := hLx.cell 0
      clear hol hwL
      go_wp2_with fail
      rw [HOL.out, HWL.out]
      try rw [hp]
      refine (penNumber_any _ l.kind u (B0 + 1) B0 wL ⟨by omega, by omega⟩ hpL (by rw [List.length_append]; omega) (by omega)).mono ?_
      rintro e w5 ⟨u5, rfl, hp5, hg5⟩
      have hL5 := hLx.pen hg5 hapL
      have hB5 := hBL.pen hg5 (hpL.low (by omega) hwB)
      have hbw5 : Below w.heap.size w w5 := Far.toBelow hbwL hg5.far hbwL.size (by
        rintro c (h | h)
        · omega
        · have := (hpL.2.1.base_le c h).1; omega)
      have hgr5 := (hgr.post hbl).trans hg5
      have hs5 : w2.heap.size ≤ w5.heap.size := Nat.le_trans hsL hg5.far.size
      have MV := MV0.keep hbw5
      clear k0' hLx hBL hapL hpL hbwL hbl hg5 c0 c1 c2 c3 c4 c5 c6 hpr hgr hBr hbr hsr MV0 hsL
      obtain ⟨H, hH⟩ : ∃ H, headOf s ++ (netNums s.N s.V t).flatMap seven ++ seven l.kind.toNat = H := ⟨_, rfl⟩
      have HHL2 : Hid (H.length ≤ 200000) := Lib.hid (by
        have := seven_9 (x := l.kind.toNat) (by omega)
        rw [← hH]
        simp only [List.length_append]
        omega)
      rw [hH] at hp5 HNX
      clear hH hhl hnl
      go_upto_region 11 with (fail)
      go_cut [57, 58, 59] (fun sl ln zz wx => ∃ Q, sl = .slice (some ⟨Q, 0, none⟩) 4 4 ∧ ln = .int .i64 4 ∧ zz = .int .i64 0 ∧ w5.heap.size ≤ Q ∧ Box wx Q [.int .i64 l.W.rows, .int .i64 l.W.cols, .slice a2 n2 k2, .int .i64 l.B.rows, .int .i64 l.B.cols, .slice a3 n3 k3, .int .i64 g.W.rows, .int .i64 g.W.cols, .slice a4 n4 k4, .int .i64 g.B.rows, .int .i64 g.B.cols, .slice a5 n5 k5] 24 ∧ Below w5.heap.size w5 wx)
      case first =>
        clear hp5 hgr5 hbw5
        go_region_held3 (fun w' => w'.cell? ⟨w.heap.size, 1, none⟩ = some (.slice (some ⟨b1, o1, none⟩) n1 k1) ∧ (w'.cell? ⟨p, 1, none⟩ = some (.int .i64 l.W.rows) ∧ w'.cell? ⟨p, 2, none⟩ = some (.int .i64 l.W.cols) ∧ w'.cell? ⟨p, 3, none⟩ = some (.slice a2 n2 k2) ∧ w'.cell? ⟨p, 4, none⟩ = some (.int .i64 l.B.rows) ∧ w'.cell? ⟨p, 5, none⟩ = some (.int .i64 l.B.cols) ∧ w'.cell? ⟨p, 6, none⟩ = some (.slice a3 n3 k3)) ∧ w'.cell? ⟨b1, o1 + t * 6, none⟩ = some (.int .i64 g.W.rows) ∧ w'.cell? ⟨b1, o1 + t * 6 + 1, none⟩ = some (.int .i64 g.W.cols) ∧ w'.cell? ⟨b1, o1 + t * 6 + 2, none⟩ = some (.slice a4 n4 k4) ∧ w'.cell? ⟨b1, o1 + t * 6 + 3, none⟩ = some (.int .i64 g.B.rows) ∧ w'.cell? ⟨b1, o1 + t * 6 + 4, none⟩ = some (.int .i64 g.B.cols) ∧ w'.cell? ⟨b1, o1 + t * 6 + 5, none⟩ = some (.slice a5 n5 k5)) (exact cells_14 (show Box _ w.heap.size [.slice (some ⟨b0, o0, none⟩) n1 k0, .slice (some ⟨b1, o1, none⟩) n1 k1, .int .i64 s.steps] 62 from (by repeat (first | fail | (with_reducible exact hB5) | (with_reducible refine Box.alloc ?_ _) | (with_reducible refine Box.drewN ?_ _) | (with_reducible refine Box.drew ?_) | (with_reducible refine Box.far ?_ ?_ _; rotate_left 1; (first | (dsimp only; omega) | omega | (simp; omega) | simp)) | exact hB5))) (show Box _ p [.int .i64 l.kind, .int .i64 l.W.rows, .int .i64 l.W.cols, .slice a2 n2 k2, .int .i64 l.B.rows, .int .i64 l.B.cols, .slice a3 n3 k3] 100 from (by repeat (first | fail | (with_reducible exact hL5) | (with_reducible refine Box.alloc ?_ _) | (with_reducible refine Box.drewN ?_ _) | (with_reducible refine Box.drew ?_) | (with_reducible refine Box.far ?_ ?_ _; rotate_left 1; (first | (dsimp only; omega) | omega | (simp; omega) | simp)) | exact hL5))) (show Cells6 _ b1 (o1 + t * 6) (.int .i64 g.W.rows) (.int .i64 g.W.cols) (.slice a4 n4 k4) (.int .i64 g.B.rows) (.int .i64 g.B.cols) (.slice a5 n5 k5) from (by repeat (first | fail | (with_reducible exact MV) | (with_reducible refine Cells6.alloc ?_ _) | (with_reducible refine Cells6.drewN ?_ _) | (with_reducible refine Cells6.drew ?_) | (with_reducible refine Cells6.far ?_ ?_ _; rotate_left 1; (first | (dsimp only; omega) | omega | (simp; omega) | simp)) | exact MV)))) (fail)
        all_goals (
          go_wp2_with fail
          go_meet
          exact ⟨_, rfl, rfl, rfl, Nat.le_refl _, (by repeat (first | fail | (with_reducible refine (Box.new' _ _ _ _ ?_); (simp; done)) | (with_reducible refine Box.alloc ?_ _) | (with_reducible refine Box.drewN ?_ _) | (with_reducible refine Box.drew ?_) | (with_reducible refine Box.far ?_ ?_ _; rotate_left 1; (first | (dsimp only; omega) | omega | (simp; omega) | simp)))), (by repeat (first | fail | (with_reducible exact Below.refl _ _) | (with_reducible refine Below.al ?_ _) | (with_reducible refine Below.drN ?_ _) | (with_reducible refine Below.drew ?_) | (with_reducible refine Below.st ?_ ?_ _; rotate_left 1; (first | (dsimp only; omega) | omega | (simp; omega) | simp)) | exact Below.refl _ _))⟩)
      case rest =>
        obtain ⟨Q, rfl, rfl, rfl, hQ, hQb, hbc⟩ := hcut
        obtain ⟨wc', hwc⟩ : ∃ wc', wc' = wc := ⟨_, rfl⟩
        subst hwc
        have hpc := hp5.keep hbc
        have hgc := hgr5.post hbc
        have hbwc : Below w.heap.size w wc' := hbw5.trans (hbc.mono hbw5.size)
        have hapQ : Apart (B0 + 1) u5 Q := hp5.apart hQ
        have hsc : w2.heap.size ≤ wc'.heap.size := Nat.le_trans hs5 hbc.size
        have hwBc : w.heap.size ≤ B0 := Nat.le_of_lt hwB
        clear hp5 hgr5 hbw5 hbc hL5 hB5 MV hQ hs5
        go_wp2
        go_loopw [59] (fun i wy => ∃ (j : Nat) (uj : Value), j ≤ 4 ∧ i = .int .i64 j ∧ PenAt wy (B0 + 1) B0 uj (H ++ (penTo l g j).flatMap seven) ∧ PenGo (B0 + 1) wc' wy u5 uj) (fun i _ => 4 - (intOf i).toNat)
        case atStart => exact ⟨0, u5, by decide, rfl, by simpa [penTo] using hpc, PenGo.refl _ _ _⟩
        case round =>
          obtain ⟨j, uj, hj, rfl, hpy, hgy⟩ := hrel
          have hQy := hQb.pen hgy hapQ
          have hbwy : Below w.heap.size w wr := Far.toBelow hbwc hgy.far hbwc.size (by
            rintro c (h | h)
            · omega
            · have := (hpc.2.1.base_le c h).1; omega)
          have hsy : w2.heap.size ≤ wr.heap.size := Nat.le_trans hsc hgy.far.size
          by_cases hj4 : j < 4
          · have hjI : (j : Int) < 4 := by omega
            have hj0 : (0 : Int) ≤ (j : Int) := by omega
            obtain ⟨ja, jn, jk, jb, jo, e0, e1, e2, xi⟩ := HIX.out j hj4
            have q0 := hQy.cell (j * 3)
            have q1 := hQy.cell (j * 3 + 1)
            have q2 := hQy.cell (j * 3 + 2)
            rw [e0] at q0
            rw [e1] at q1
            rw [e2] at q2
            have hql := penTo_len HQ4.out j
            have hhl := HHL2.out
            have hms := matNums_len_all (HQ4.out j)
            have hqf := HQ4.out j
            have HPN : Hid ((penTo l g (j + 1)).flatMap seven = (penTo l g j).flatMap seven ++ (matNums (q4 l g j)).flatMap seven) := Lib.hid (by rw [penTo, List.flatMap_append])
            obtain ⟨mj, hmj⟩ : ∃ mj, q4 l g j = mj := ⟨_, rfl⟩
            rw [hmj] at q0 q1 xi hqf HPN
            clear e0 e1 e2 hmj hQy
            have hba : Below wr.heap.size wr (wr.alloc (.cells #[.int .i64 mj.rows, .int .i64 mj.cols, .slice ja jn jk] 24)) := (by repeat (first | fail | (with_reducible exact Below.refl _ _) | (with_reducible refine Below.al ?_ _) | (with_reducible refine Below.drN ?_ _) | (with_reducible refine Below.drew ?_) | (with_reducible refine Below.st ?_ ?_ _; rotate_left 1; (first | (dsimp only; omega) | omega | (simp; omega) | simp)) | exact Below.refl _ _))
            go_wp2_with fail
            refine (penMatrix_any mj ja jn jk jb jo _ uj (B0 + 1) B0 _ (xi.keep (hbwy.trans (hba.mono hbwy.size))) hqf (hpy.keep hba) (fun h0 => hpy.low (by omega) (Nat.lt_of_lt_of_le (xi.lt h0) hwBc)) (by rw [List.length_append]; omega) (by have := hba.size; omega)).mono ?_
            rintro e w8 ⟨u8, rfl, hp8, hg8⟩
            rw [List.append_assoc, ← HPN.out] at hp8
            have hg9 := hgy.trans (PenGo.pre hba hg8)
            clear hpy hgy hba hg8 hbwy q0 q1 q2 xi
            go_wp2
            go_roundw
            case rel => exact ⟨j + 1, u8, by omega, by go_num, hp8, hg9⟩
            case measure => simp [intOf]; omega
          · obtain rfl : j = 4 := by omega
            rw [HNX.out] at hpy
            have hgn := hgc.trans hgy
            clear hQy hbwy hgy
            go_wp2
            go_roundw
            case rel => exact ⟨t + 1, uj, by omega, by go_num, hpy, hgn⟩
            case measure => simp [intOf]; omega
    · obtain rfl : t = n1 := by omega
      obtain ⟨L, hL⟩ : ∃ L, headOf s ++ (netNums s.N s.V t).flatMap seven = L := ⟨_, rfl⟩
      have hLl : L.length ≤ 200000 := by
        have h1 := HNL.out t (Nat.le_refl _)
        have h2 := HHL.out
        rw [← hL, List.length_append]
        omega
      rw [hL] at hpr
      obtain ⟨hBp, hown, hneR⟩ := hpr
      obtain ⟨x, hx⟩ : ∃ x, (prgSums L).1 = x := ⟨_, rfl⟩
      obtain ⟨y, hy⟩ : ∃ y, (prgSums L).2 = y := ⟨_, rfl⟩
      have hsl := prgSums_lt L
      rw [hx, hy] at hsl
      have HBY2 : Hid (staBytes s = L ++ [x, y]) := Lib.hid (by rw [HBY.out, hL]; unfold withSums; rw [hx, hy])
      have HXY : Hid ((prgSums L).1 = x ∧ (prgSums L).2 = y) := Lib.hid ⟨hx, hy⟩
      clear hL hx hy
      obtain ⟨av, cv, bv, hu, _, hrow⟩ := hown.row (G := anyB) (fun _ _ _ => trivial) (fun _ _ => trivial)
      have hUS : Hid (u = .slice av L.length cv) := Lib.hid hu
      subst hu
      have p0 := hBp.cell 0
      clear hBr
      go_wp2_with fail
      refine (keepSums_any L av L.length cv bv 0 anyB _ hrow).mono ?_
      rw [HXY.out.1, HXY.out.2]
      rintro e w5 ⟨rfl, hb5⟩
      have hBp5 := hBp.keep hb5
      have hown5 := hown.keep hb5
      have hg5 := hgr.post hb5
      have hs5 : w2.heap.size ≤ w5.heap.size := Nat.le_trans hsr hb5.size
      have hbw5 : Below w.heap.size w w5 := hbr.trans (hb5.mono hbr.size)
      have q0 := hBp5.cell 0
      have hBX : Box (w5.alloc (.cells #[.int .u8 (x : Int), .int .u8 (y : Int)] 5)) w5.heap.size ([x, y].map fun (q : Nat) => Value.int .u8 (q : Int)) 5 := Box.new' _ _ [.int .u8 (x : Int), .int .u8 (y : Int)] _ rfl
      have hrx : RowAt Form.u8 (w5.alloc (.cells #[.int .u8 (x : Int), .int .u8 (y : Int)] 5)) anyB (some ⟨w5.heap.size, 0, none⟩) 2 2 w5.heap.size 0 [x, y] := u8_box hBX (by intro z hz; simp at hz; omega) (by unfold maxLen; simp) trivial
      have hba : Below w5.heap.size w5 (w5.alloc (.cells #[.int .u8 (x : Int), .int .u8 (y : Int)] 5)) := (by repeat (first | fail | (with_reducible exact Below.refl _ _) | (with_reducible refine Below.al ?_ _) | (with_reducible refine Below.drN ?_ _) | (with_reducible refine Below.drew ?_) | (with_reducible refine Below.st ?_ ?_ _; rotate_left 1; (first | (dsimp only; omega) | omega | (simp; omega) | simp)) | exact Below.refl _ _))
      clear p0 hBX hrow hb5 hown hBp hgr hsr hbr
      go_wp2_with (at_builtin; go_must (refine wpList_append_flat rfl (.tmp 80) (.tmp 83) 27 rfl Form.u8 u8_plainly B0 noK 5 i0 (.int .u8 0) 1 Tryd.underlying27 hi hz0 hz1 hz2 rfl (by decide) _ L rfl (hown5.keep hba) anyB (some ⟨w5.heap.size, 0, none⟩) 2 2 w5.heap.size 0 [x, y] rfl hrx (by omega) (by unfold maxLen; omega) (by have := hba.size; omega) ?_))
      intro v' w' hown' hgrow hlies
      replace hlies : ∀ g, v'.ownBlock = some g → Value.ownBlock (.slice av L.length cv) = some g ∨ w5.heap.size ≤ g := fun g hg => (hlies g hg).imp_right (fun h => by omega)
      obtain ⟨a9, k9, hv9⟩ := hown'.slice
      rw [show (L ++ [x, y]).length = L.length + 2 by simp] at hv9
      subst hv9
      have HST := Lib.hid (pen_store (T := 97) hBp5 hneR hba hgrow hlies hown')
      have HGO := Lib.hid (hg5.store hba hgrow hlies (.slice a9 (L.length + 2) k9))
      have hB' : Box w' (B0 + 1) [.slice av L.length cv] 97 := (hBp5.keep hba).grown hgrow (fun e => hneR e.symm)
      have f0 := hB'.thawed 0
      have d0 := hB'.cell 0
      obtain ⟨wq, hwq⟩ : ∃ wq, w'.setCell ⟨B0 + 1, 0, none⟩ (.slice a9 (L.length + 2) k9) = wq := ⟨_, rfl⟩
      rw [hwq] at HST HGO
      have HWQ := Lib.hid hwq
      have HBF : Hid (Below w.heap.size w wq) := Lib.hid (Far.toBelow hbw2 HGO.out.far hbw2.size (by
        rintro c (h | h)
        · omega
        · have := HV2.out c h; omega))
      have r0 := HST.out.1.cell 0
      have HOW : Hid (OwnRow Form.u8 5 wq w.heap.size noK (.slice a9 (L.length + 2) k9) (staBytes s)) := Lib.hid (by rw [HBY2.out]; exact HST.out.2.1.lower (by omega))
      have HLE : Hid ((staBytes s).length = L.length + 2) := Lib.hid (by rw [HBY2.out]; simp)
      clear hgrow hlies hown' hB' hBp5 hba hg5 hrx hbw5 hown5 q0 hwq
      go_upto_region 19 with (fail)
      rw [HWQ.out]
      by_cases hbig : 100000 < L.length + 2
      · have e1 : ((L.length : Int) + 2 > 100000) = True := eq_true (by omega)
        go_wp2
        refine bodyPost_ret (v := .tuple #[.slice none 0 0, .iface 32 (.int .i64 3)]) (by simp [results, Tryd.results24, go_sem]) rfl ⟨_, _, rfl, (by repeat (first | fail | (with_reducible exact Below.refl _ _) | (with_reducible exact HBF.out) | (with_reducible refine Below.al ?_ _) | (with_reducible refine Below.drN ?_ _) | (with_reducible refine Below.drew ?_) | (with_reducible refine Below.st ?_ ?_ _; rotate_left 1; (first | (dsimp only; omega) | omega | (simp; omega) | simp)) | exact Below.refl _ _ | exact HBF.out)), Or.inr ⟨by rw [HLE.out]; exact hbig, rfl, (errV_err (by decide)).symm⟩⟩
      · have e1 : ((L.length : Int) + 2 > 100000) = False := eq_false (by omega)
        go_wp2
        refine bodyPost_ret (v := .tuple #[.slice a9 (L.length + 2) k9, .nilIface]) (by simp [results, Tryd.results24, go_sem]) rfl ⟨_, _, rfl, (by repeat (first | fail | (with_reducible exact Below.refl _ _) | (with_reducible exact HBF.out) | (with_reducible refine Below.al ?_ _) | (with_reducible refine Below.drN ?_ _) | (with_reducible refine Below.drew ?_) | (with_reducible refine Below.st ?_ ?_ _; rotate_left 1; (first | (dsimp only; omega) | omega | (simp; omega) | simp)) | exact Below.refl _ _ | exact HBF.out)), Or.inl ⟨by rw [HLE.out]; omega, rfl, HOW.out⟩⟩
end Go.Proofs.YtgknjikjjklaiaaDoor
