/- Texts joined: Net2. -/
import Derived.Test.YtchngeagnlngaaaJ18
import Derived.Test.YtchngeagnlngaaaJ17
import Derived.Test.YtchngeagnlngaaaJ12
import Derived.Test.YtchngeagnlngaaaJ32
import Derived.Test.YtchngeagnlngaaaJ21
import Derived.Deep.DeepCutAuto
import Derived.Deep.RegionHeld3
import Derived.IntWalk
section
set_option linter.unusedVariables false
set_option linter.unusedSimpArgs false
set_option linter.unusedSectionVars false
namespace Gal
open Go Go.RowKit
structure Cells3 (w : World) (b i : Nat) (x y z : Value) : Prop where
 c0 : w.cell? ⟨b, i, none⟩ = some x
 c1 : w.cell? ⟨b, i + 1, none⟩ = some y
 c2 : w.cell? ⟨b, i + 2, none⟩ = some z
section
variable {w w' : World} {b i : Nat} {x y z : Value}
theorem Cells3.keep (h : Cells3 w b i x y z) (hb : Below w.heap.size w w') : Cells3 w' b i x y z := ⟨cell_keep hb h.c0, cell_keep hb h.c1, cell_keep hb h.c2⟩
theorem Cells3.alloc (h : Cells3 w b i x y z) (o : Obj) : Cells3 (w.alloc o) b i x y z := h.keep ((Below.refl w.heap.size w).alloc (Nat.le_refl _) o)
theorem Cells3.drewN (h : Cells3 w b i x y z) (n : Nat) : Cells3 (w.drewN n) b i x y z := ⟨h.c0, h.c1, h.c2⟩
theorem Cells3.drew (h : Cells3 w b i x y z) : Cells3 w.drew b i x y z := ⟨h.c0, h.c1, h.c2⟩
theorem Cells3.far (h : Cells3 w b i x y z) {a : Addr} (hne : b ≠ a.block) (v : Value) : Cells3 (w.setCell a v) b i x y z :=
 ⟨(World.cell?_of_block (a := ⟨b, i, none⟩) (Below.heap_setCell w a v b hne)).trans h.c0, (World.cell?_of_block (a := ⟨b, i + 1, none⟩) (Below.heap_setCell w a v b hne)).trans h.c1, (World.cell?_of_block (a := ⟨b, i + 2, none⟩) (Below.heap_setCell w a v b hne)).trans h.c2⟩
end
theorem cells73 {w : World} {b c i : Nat} {t : TypeId} {v0 v1 v2 v3 v4 v5 v6 x y z : Value} (h : Box w b [v0, v1, v2, v3, v4, v5, v6] t) (m : Cells3 w c i x y z) :
  w.cell? ⟨b, 0, none⟩ = some v0 ∧ w.cell? ⟨b, 1, none⟩ = some v1 ∧ w.cell? ⟨b, 2, none⟩ = some v2 ∧ w.cell? ⟨b, 3, none⟩ = some v3 ∧ w.cell? ⟨b, 4, none⟩ = some v4 ∧ w.cell? ⟨b, 5, none⟩ = some v5 ∧ w.cell? ⟨b, 6, none⟩ = some v6 ∧
  w.cell? ⟨c, i, none⟩ = some x ∧ w.cell? ⟨c, i + 1, none⟩ = some y ∧ w.cell? ⟨c, i + 2, none⟩ = some z :=
 ⟨h.cell 0, h.cell 1, h.cell 2, h.cell 3, h.cell 4, h.cell 5, h.cell 6, m.c0, m.c1, m.c2⟩
end Gal
namespace Go.Proofs.Ytchngeagnlngaaa
open Go.RowKit Gal
theorem info_mat : (Try.prog.info? 28).map (fun i => (i.zero, i.size, i.bytes)) = some (some (.agg #[.int .i64 0, .int .i64 0, .slice none 0 0]), 3, 40) := by kernel_rfl
set_option maxRecDepth 100000
set_option maxHeartbeats 4000000
theorem netClone_any (m : Mat) (va : Value) (w : World) (ha : MatAt w va m) (hn : m.cells.length * 8 ≤ 140737488355328) :
  Calls Try.prog 64 #[va] w fun e w' => ∃ v, e = .returned v ∧ MatNew w.heap.size w' v m ∧ Below w.heap.size w w' := by
 obtain ⟨a0, n0, k0, b0, o0, rfl, x0⟩ := ha
 have hl := x0.len
 have HN : Hid (n0 * 8 ≤ 140737488355328) := Lib.hid (by omega)
 clear hn hl
 go_enter Try.func64, Try.ntmps64
 go_wp2_with fail
 refine (clone_any a0 n0 k0 b0 o0 m.cells _ (x0.alloc _ |>.alloc _) HN.out).mono ?_
 rintro e w1 ⟨a1, k1, b1, rfl, hbb, y1, hb1⟩
 have B1 := ((show Box _ w.heap.size [.int .i64 m.rows, .int .i64 m.cols, .slice a0 n0 k0] 28 from Box.x0)).keep hb1
 have B1c := B1.cell
 have B1f := B1.thawed
 have B1z := B1.lt
 have B1k := lt_add B1z
 have B2 := ((show Box _ (w.heap.size + 1) [.int .i64 0, .int .i64 0, .slice none 0 0] 28 from Box.x0)).keep hb1
 have B2c := B2.cell
 have B2f := B2.thawed
 have B2z := B2.lt
 have B2k := lt_add B2z
 simp at hbb
 have l1 : 0 < n0 → w.heap.size + 1 < b1 := fun h => by have := hbb h; omega
 go_wp2
 refine bodyPost_ret (v := .agg #[.int .i64 m.rows, .int .i64 m.cols, .slice a1 n0 k1]) (by simp [results, Try.results64, go_sem, B2c, B1c, B2z, B1z]) rfl ⟨_, rfl, MatNew.mk (b := b1) (off := 0) (fun h => by have := l1 h; omega) (by repeat (first | (with_reducible first | exact y1 | refine IntsAt.alloc ?_ _ | refine IntsAt.drewN ?_ _ | refine IntsAt.drew ?_ | (refine IntsAt.set ?_ ?_ _; rotate_left 1; (intro h0; have hq0 := l1 h0; first | (dsimp only; omega) | omega | (simp; omega) | simp))) | exact y1)), (Below.x1 hb1)⟩
section
variable (ls : List Lay) (F : Nat → Prop) (a : Option Addr) (n k b o : Nat) (x : Mat) (vx : Value) (w : World) (h : RowAt Form.lay w F a n k b o ls) (hx : MatAt w vx x)
include h hx
theorem netGo_any : Calls Try.prog 26 #[.slice a n k, vx] w fun e w' => ∃ v, e = .returned (.tuple #[v, errV (netGoFault ls x)]) ∧ Below w.heap.size w w' ∧
      (netGoFault ls x = 0 → ∃ a' k' b', v = .slice a' (n + 1) k' ∧ RowAt Form.mat w' (newB w.heap.size) a' (n + 1) k' b' 0 (netOuts ls x n)) ∧ (netGoFault ls x ≠ 0 → v = .slice none 0 0) := by
  obtain ⟨i0, hi, hz0, hz1, hz2⟩ := info_parts info_mat
  obtain ⟨ax, nx, kx, bx, ox, rfl, x0⟩ := hx
  have hl := h.len
  have hm := h.max
  unfold maxLen at hm
  by_cases h12 : 12 < n
  · have hf : netGoFault ls x = 3 := by unfold netGoFault; rw [if_pos (by omega)]
    rw [hf]
    go_enter Try.func26, Try.ntmps26
    go_wp2
    refine bodyPost_ret (v := .tuple #[.slice none 0 0, .iface 62 (.int .i64 3)]) (by simp [results, Try.results26, go_sem]) rfl ⟨.slice none 0 0, ?_, Below.x0, ?_, ?_⟩
    · rfl
    · exact fun h => absurd h (by decide)
    · exact fun _ => rfl
  · by_cases hf : x.fault = 0
    · have HF : Hid (netGoFault ls x = goTo ls x n) := Lib.hid (by unfold netGoFault; rw [if_neg (by omega), if_neg (by simp [hf]), hl])
      have HE : Hid (errV (matFault x.rows x.cols x.cells) = .nilIface) := Lib.hid (errV_nil hf)
      have HX := Lib.hid hf
      have hxl : x.cells.length * 8 ≤ 140737488355328 := by obtain ⟨_, _, h3⟩ := fault_bd hf; omega
      clear hf
      rw [HF.out]
      go_enter Try.func26, Try.ntmps26
      go_wp2_with fail
      refine (matCheck_any _ _ _ _ _ _ _ x.cells _ (x0.alloc _)).mono ?_
      rw [HE.out]
      rintro e w1 ⟨rfl, hb1⟩
      have B3 := (Box.new w [.int .i64 x.rows, .int .i64 x.cols, .slice ax nx kx] 28).keep hb1
      have B3c := B3.cell
      have B3f := B3.thawed
      have B3z := B3.lt
      have B3k := lt_add B3z
      replace h := (h.alloc _).keep hb1
      replace x0 := (x0.alloc _).keep hb1
      go_wp2_with fail
      refine (netClone_any x _ _ (MatAt.mk x0) hxl).mono ?_
      rintro e w2 ⟨v2, rfl, ⟨a2, n2, k2, b2, o2, rfl, hn2, x2⟩, hb2⟩
      have hkw2 : Below w1.heap.size w1 w2 := (Below.x1 hb2)
      replace B3 := B3.keep hkw2
      replace B3c := B3.cell
      replace B3f := B3.thawed
      replace B3z := B3.lt
      replace B3k := lt_add B3z
      replace h := h.keep hkw2
      have hsw2 := hkw2.size
      have hz1' : w.heap.size + 1 ≤ w1.heap.size := by have := hb1.size; simp at this; omega
      have l2 : 0 < n2 → w1.heap.size ≤ b2 := hn2
      have l2' := x2.lt
      have hbw2 : Below w.heap.size w w2 := (Below.x2 hb2 hb1)
      have hown0 : OwnRow Form.mat 28 (w2.alloc (.cells #[.int .i64 x.rows, .int .i64 x.cols, .slice a2 n2 k2] 28)) w2.heap.size (newB (w.heap.size + 1)) (.slice (some ⟨w2.heap.size, 0, none⟩) 1 1) (netOuts ls x 0) :=
        own_one (Box.new _ _ _) ⟨a2, n2, k2, b2, o2, rfl, fun h => ⟨by have := l2 h; unfold newB; omega, by have := l2' h; omega⟩, x2.alloc _⟩ (Nat.le_refl _)
      have hz2' : w.heap.size + 1 ≤ w2.heap.size := by have := hb2.size; omega
      go_wp2
      go_loopw [7, 26] (fun s j wr => ∃ t : Nat, t ≤ n ∧ j = .int .i64 t ∧ goTo ls x t = 0 ∧ OwnRow Form.mat 28 wr w2.heap.size (newB (w.heap.size + 1)) s (netOuts ls x t) ∧ Below w2.heap.size w2 wr) (fun _ j _ => n - (intOf j).toNat)
      case atStart => exact ⟨0, Nat.zero_le _, rfl, rfl, hown0, Below.x0⟩
      case round =>
        clear hown0
        obtain ⟨t, ht, rfl, hg0, hown, hbr⟩ := hrel
        have HG := Lib.hid hg0
        have HXF := Lib.hid (netTo_fault HX.out hg0)
        clear hg0 B3 B3c B3f B3z B3k
        by_cases hlt : t < n
        · obtain rfl := h.ptr (by omega)
          obtain ⟨a4, n4, k4, b4, o4, a5, n5, k5, b5, o5, c0, c1, c2, c3, c4, c5, c6, x4, x5⟩ := lay_cells (h.keep hbr) hlt
          obtain ⟨av, cv, b', hv, hb', hrow⟩ := hown.row (G := newB (w.heap.size + 1)) (fun _ h _ => h) (fun b h => by unfold newB; omega)
          rw [netOuts_length] at hv hb' hrow
          obtain ⟨q, hq⟩ : ∃ q, q = t + 1 := ⟨_, rfl⟩
          rw [← hq] at hv hrow
          subst hv
          obtain rfl := hrow.ptr (by omega)
          obtain ⟨cs, ⟨a6, n6, k6, b6, o6, rfl, _, x6⟩, hc⟩ := hrow.cell t _ (netOuts_last ls x t)
          have m0 : wr.cell? ⟨b', t * 3, none⟩ = some (.int .i64 (netTo ls x t).rows) := by simpa [Form.mat] using hc 0 (by decide)
          have m1 : wr.cell? ⟨b', t * 3 + 1, none⟩ = some (.int .i64 (netTo ls x t).cols) := by simpa [Form.mat] using hc 1 (by decide)
          have m2 : wr.cell? ⟨b', t * 3 + 2, none⟩ = some (.slice a6 n6 k6) := by simpa [Form.mat] using hc 2 (by decide)
          clear hc
          have hb'l : b' < wr.heap.size := (hown.base_le b' rfl).2
          have hbx : Below w.heap.size w wr := (Below.y1 hbr hbw2)
          have BX := Box.new wr [.int .i64 (lx ls t).kind, .int .i64 (lx ls t).W.rows, .int .i64 (lx ls t).W.cols, .slice a4 n4 k4, .int .i64 (lx ls t).B.rows, .int .i64 (lx ls t).B.cols, .slice a5 n5 k5] 69
          have hal : Below wr.heap.size wr (wr.alloc (.cells #[.int .i64 (lx ls t).kind, .int .i64 (lx ls t).W.rows, .int .i64 (lx ls t).W.cols, .slice a4 n4 k4, .int .i64 (lx ls t).B.rows, .int .i64 (lx ls t).B.cols, .slice a5 n5 k5] 69)) := Below.x0
          have M3 : Cells3 (wr.alloc (.cells #[.int .i64 (lx ls t).kind, .int .i64 (lx ls t).W.rows, .int .i64 (lx ls t).W.cols, .slice a4 n4 k4, .int .i64 (lx ls t).B.rows, .int .i64 (lx ls t).B.cols, .slice a5 n5 k5] 69)) b' (t * 3) (.int .i64 (netTo ls x t).rows) (.int .i64 (netTo ls x t).cols) (.slice a6 n6 k6) := Cells3.keep ⟨m0, m1, m2⟩ hal
          clear m0 m1 m2
          replace x4 := x4.keep hal
          replace x5 := x5.keep hal
          replace x6 := x6.keep hal
          have hqI : (q : Int) - 1 = (t : Int) := by omega
          have hi1 : IntKind.i64.wrap ((q : Int) - 1) = (t : Int) := by rw [hqI]; exact IntWalk.i64_in _ (by omega)
          have hi2 : (t : Int) < (q : Int) := by omega
          have hi3 : (0 : Int) ≤ (t : Int) := by omega
          have HQ := Lib.hid hq
          clear hq hqI
          have hw2z : w.heap.size + 1 ≤ wr.heap.size := by have := hbr.size; have := hb2.size; omega
          go_wp2_with fail
          by_cases hff : (lx ls t).goFault (netTo ls x t) = 0
          · have HFF := Lib.hid hff
            clear hff
            go_cut [10, 11] (fun s10 s11 wx => ∃ p a7 n7 k7 b7 o7, s10 = .pointer (some ⟨p, 0, none⟩) ∧ s11 = .nilIface ∧ Box wx p [.int .i64 (netTo ls x (t + 1)).rows, .int .i64 (netTo ls x (t + 1)).cols, .slice a7 n7 k7] 28 ∧ IntsAt wx a7 n7 k7 b7 o7 (netTo ls x (t + 1)).cells ∧ (0 < n7 → wr.heap.size < b7) ∧ Below wr.heap.size wr wx ∧ wr.heap.size < wx.heap.size)
            case first =>
              go_region_held3 (fun w' => w'.cell? ⟨wr.heap.size, 0, none⟩ = some (.int .i64 (lx ls t).kind) ∧ w'.cell? ⟨wr.heap.size, 1, none⟩ = some (.int .i64 (lx ls t).W.rows) ∧ w'.cell? ⟨wr.heap.size, 2, none⟩ = some (.int .i64 (lx ls t).W.cols) ∧ w'.cell? ⟨wr.heap.size, 3, none⟩ = some (.slice a4 n4 k4) ∧ w'.cell? ⟨wr.heap.size, 4, none⟩ = some (.int .i64 (lx ls t).B.rows) ∧ w'.cell? ⟨wr.heap.size, 5, none⟩ = some (.int .i64 (lx ls t).B.cols) ∧ w'.cell? ⟨wr.heap.size, 6, none⟩ = some (.slice a5 n5 k5) ∧ w'.cell? ⟨b', t * 3, none⟩ = some (.int .i64 (netTo ls x t).rows) ∧ w'.cell? ⟨b', t * 3 + 1, none⟩ = some (.int .i64 (netTo ls x t).cols) ∧ w'.cell? ⟨b', t * 3 + 2, none⟩ = some (.slice a6 n6 k6)) (exact cells73 (t := 69) (by first | exact BX.k1 hb7 | exact BX.k) (by repeat (first | (with_reducible first | exact M3 | refine Cells3.alloc ?_ _ | refine Cells3.drewN ?_ _ | refine Cells3.drew ?_ | (refine Cells3.far ?_ ?_ _; rotate_left 1; (first | (dsimp only; omega) | omega | (simp; omega) | simp)) | refine Cells3.keep ?_ hb7) | exact M3))) ((go_at_call 34; go_must (refine (layGo_is (l := lx ls t) (m := netTo ls x t) (y := netTo ls x (t + 1)) ⟨_, _, _, _, _, _, _, _, _, _, rfl, (show IntsAt _ a4 n4 k4 b4 o4 (lx ls t).W.cells from x4.k), (show IntsAt _ a5 n5 k5 b5 o5 (lx ls t).B.cells from x5.k)⟩ (MatAt.mk (show IntsAt _ a6 n6 k6 b6 o6 (netTo ls x t).cells from x6.k)) HFF.out rfl).mono ?_); go_must (rintro e w7 ⟨v7, rfl, ⟨a7, n7, k7, b7, o7, rfl, hn7, x7⟩, hb7⟩); (try (refine (fun (P1 : Box w7 (wr.heap.size + 1) [.int .i64 0, .int .i64 0, .slice none 0 0] 28) => ?_) ?_; rotate_left 1; (with_reducible refine Box.keep ?_ hb7); (focus ((repeat (first | (with_reducible refine (Box.new' _ (wr.heap.size + 1) _ _ ?_); (simp; done)) | (with_reducible refine Box.alloc ?_ _) | (with_reducible refine Box.drew ?_) | (with_reducible refine Box.drewN ?_ _))); done)); have P1c := P1.cell; have P1f := P1.thawed; have P1z := P1.lt))))
              all_goals (
                go_wp2_with fail
                go_meet
                simp at hn7
                have hbz := hb7.size
                simp at hbz
                exact ⟨_, a7, n7, k7, b7, o7, rfl, rfl, (by repeat (first | (with_reducible first | (refine (Box.new' _ _ _ _ ?_); (simp; done)) | refine Box.alloc ?_ _ | refine Box.drewN ?_ _ | refine Box.drew ?_ | refine Box.set6z ?_ _ _ _ _ _ _ | refine Box.set3z ?_ _ _ _ | refine Box.fx ?_ _ | refine Box.keep ?_ hb7))), (by repeat (first | (with_reducible first | exact x7 | refine IntsAt.alloc ?_ _ | refine IntsAt.drewN ?_ _ | refine IntsAt.drew ?_ | (refine IntsAt.set ?_ ?_ _; rotate_left 1; (intro h0; have hq0 := hn7 h0; first | (dsimp only; omega) | omega | (simp; omega) | simp))) | exact x7)), fun h => by have := hn7 h; omega, (Below.x1 hb7), by first | (simp [World.setCell]; omega) | omega⟩)
            case rest =>
              obtain ⟨p, a7, n7, k7, b7, o7, rfl, rfl, P10, x7, hn7, hbc, hzc⟩ := hcut
              have P10 := P10
              have P10c := P10.cell
              have P10f := P10.thawed
              have P10z := P10.lt
              have P10k := lt_add P10z
              have HOWN : OwnRow Form.mat 28 wc w2.heap.size (newB (w.heap.size + 1)) (.slice (some ⟨b', 0, none⟩) q cv) (netOuts ls x t) := hown.keep hbc
              have hlen := netOuts_length ls x t
              have HL := Lib.hid hlen
              have hbe : Below w.heap.size w wc := (Below.y1 hbc hbx)
              have hbe2 : Below w2.heap.size w2 wc := (Below.y1 hbc hbr)
              clear hlen hown M3 BX hal x4 x5 x6 hrow hi1 hi2 hi3
              go_wp2_with (at_builtin; refine wpList_push rfl (.tmp 44) (.tmp 46) 74 rfl Form.mat w2.heap.size (newB (w.heap.size + 1)) 28 i0 (.agg #[.int .i64 0, .int .i64 0, .slice none 0 0]) 40 Try.underlying74 hi hz0 hz1 hz2 rfl (by decide) (.slice (some ⟨b', 0, none⟩) q cv) (netOuts ls x t) rfl ?c1 wc.heap.size 1 [.int .i64 (netTo ls x (t + 1)).rows, .int .i64 (netTo ls x (t + 1)).cols, .slice a7 n7 k7] 28 (netTo ls x (t + 1)) rfl ?c2 ?c3 ?c4 ?c5 ?c6 _ rfl ?_)
              case c1 => exact HOWN.keep ((Below.refl wc.heap.size wc).alloc (Nat.le_refl _) _)
              case c2 => exact Box.new _ _ _
              case c3 => exact ⟨a7, n7, k7, b7, o7, rfl, fun h => ⟨by have := hn7 h; unfold newB; omega, by simp [Value.ownBlock]; have := hn7 h; omega⟩, x7.alloc _⟩
              case c4 => rw [HL.out]; omega
              case c5 => rw [HL.out]; unfold maxLen; omega
              case c6 => simp; omega
              intro g cap w' hown' hgrow hgv hgl
              have hbn : Below w.heap.size w w' := Below.grown (Below.al hbe _) hgrow (by simp; omega) (fun q hq => by have := (HOWN.base_le q hq).1; omega)
              have hbn2 : Below w2.heap.size w2 w' := Below.grown (Below.al hbe2 _) hgrow (by have := hbe2.size; simp; omega) (fun q hq => (HOWN.base_le q hq).1)
              go_wp2
              go_roundw
              case rel => exact ⟨t + 1, by omega, by go_num, by rw [goTo_succ HG.out]; exact HFF.out, by rw [netOuts_succ]; exact hown', hbn2⟩
              case measure => simp [intOf]; omega
          · have HFF := Lib.hid hff
            clear hff
            go_cut [10, 11] (fun s10 s11 wx => s11 = .iface 62 (.int .i64 ((lx ls t).goFault (netTo ls x t))) ∧ Below wr.heap.size wr wx)
            case first =>
              go_region_held3 (fun w' => w'.cell? ⟨wr.heap.size, 0, none⟩ = some (.int .i64 (lx ls t).kind) ∧ w'.cell? ⟨wr.heap.size, 1, none⟩ = some (.int .i64 (lx ls t).W.rows) ∧ w'.cell? ⟨wr.heap.size, 2, none⟩ = some (.int .i64 (lx ls t).W.cols) ∧ w'.cell? ⟨wr.heap.size, 3, none⟩ = some (.slice a4 n4 k4) ∧ w'.cell? ⟨wr.heap.size, 4, none⟩ = some (.int .i64 (lx ls t).B.rows) ∧ w'.cell? ⟨wr.heap.size, 5, none⟩ = some (.int .i64 (lx ls t).B.cols) ∧ w'.cell? ⟨wr.heap.size, 6, none⟩ = some (.slice a5 n5 k5) ∧ w'.cell? ⟨b', t * 3, none⟩ = some (.int .i64 (netTo ls x t).rows) ∧ w'.cell? ⟨b', t * 3 + 1, none⟩ = some (.int .i64 (netTo ls x t).cols) ∧ w'.cell? ⟨b', t * 3 + 2, none⟩ = some (.slice a6 n6 k6)) (exact cells73 (t := 69) (by first | exact BX.k1 hb7 | exact BX.k) (by repeat (first | (with_reducible first | exact M3 | refine Cells3.alloc ?_ _ | refine Cells3.drewN ?_ _ | refine Cells3.drew ?_ | (refine Cells3.far ?_ ?_ _; rotate_left 1; (first | (dsimp only; omega) | omega | (simp; omega) | simp)) | refine Cells3.keep ?_ hb7) | exact M3))) ((go_at_call 34; go_must (refine (layGo_not (l := lx ls t) (m := netTo ls x t) ⟨_, _, _, _, _, _, _, _, _, _, rfl, (show IntsAt _ a4 n4 k4 b4 o4 (lx ls t).W.cells from x4.k), (show IntsAt _ a5 n5 k5 b5 o5 (lx ls t).B.cells from x5.k)⟩ (MatAt.mk (show IntsAt _ a6 n6 k6 b6 o6 (netTo ls x t).cells from x6.k)) HFF.out).mono ?_); go_must (rintro e w7 ⟨v7, rfl, ⟨a7, n7, k7, b7, o7, rfl, hn7, x7⟩, hb7⟩); (try (refine (fun (P1 : Box w7 (wr.heap.size + 1) [.int .i64 0, .int .i64 0, .slice none 0 0] 28) => ?_) ?_; rotate_left 1; (with_reducible refine Box.keep ?_ hb7); (focus ((repeat (first | (with_reducible refine (Box.new' _ (wr.heap.size + 1) _ _ ?_); (simp; done)) | (with_reducible refine Box.alloc ?_ _) | (with_reducible refine Box.drew ?_) | (with_reducible refine Box.drewN ?_ _))); done)); have P1c := P1.cell; have P1f := P1.thawed; have P1z := P1.lt))))
              all_goals (
                go_wp2_with fail
                go_meet
                exact ⟨rfl, (Below.x1 hb7)⟩)
            case rest =>
              obtain ⟨rfl, hbc⟩ := hcut
              have hbe : Below w.heap.size w wc := (Below.y1 hbc hbx)
              have hs : goTo ls x (t + 1) = (lx ls t).goFault (netTo ls x t) := goTo_succ HG.out
              have HST : Hid (goTo ls x n = (lx ls t).goFault (netTo ls x t)) := Lib.hid (by rw [goTo_stop (show t + 1 ≤ n by omega) (by rw [hs]; exact HFF.out), hs])
              have HEE : Hid (errV ((lx ls t).goFault (netTo ls x t)) = .iface 62 (.int .i64 ((lx ls t).goFault (netTo ls x t)))) := Lib.hid (errV_err HFF.out)
              clear hs
              go_wp2
              refine bodyPost_ret (v := .tuple #[.slice none 0 0, .iface 62 (.int .i64 ((lx ls t).goFault (netTo ls x t)))]) (by simp [results, Try.results26, go_sem]) rfl ⟨.slice none 0 0, ?_, hbe, ?_, ?_⟩
              · rw [HST.out, HEE.out]
              · exact fun h => absurd h (by rw [HST.out]; exact HFF.out)
              · exact fun _ => rfl
        · obtain rfl : t = n := by omega
          have hbe : Below w.heap.size w wr := (Below.y1 hbr hbw2)
          obtain ⟨av, cv, b', rfl, hb', hrow⟩ := hown.row (G := newB w.heap.size) (fun b h _ => by unfold newB at *; omega) (fun b h => by unfold newB; omega)
          rw [netOuts_length] at hb' hrow
          have HR := Lib.hid hrow
          have HL := Lib.hid (netOuts_length ls x t)
          clear hown hrow
          go_wp2
          rw [HL.out]
          refine bodyPost_ret (v := .tuple #[.slice av (t + 1) cv, .nilIface]) (by simp [results, Try.results26, go_sem]) rfl ⟨.slice av (t + 1) cv, ?_, hbe, ?_, ?_⟩
          · rw [HG.out, errV_nil rfl]
          · exact fun _ => ⟨av, cv, b', rfl, HR.out⟩
          · exact fun h => absurd HG.out h
    · have hq : netGoFault ls x = x.fault := by unfold netGoFault; rw [if_neg (by omega), if_pos hf]
      have HE : Hid (errV (matFault x.rows x.cols x.cells) = .iface 62 (.int .i64 x.fault)) := Lib.hid (errV_err hf)
      have HEF : Hid (errV x.fault = .iface 62 (.int .i64 x.fault)) := Lib.hid (errV_err hf)
      have HF := Lib.hid hf
      rw [hq]
      clear hf hq
      go_enter Try.func26, Try.ntmps26
      go_wp2_with fail
      refine (matCheck_any _ _ _ _ _ _ _ x.cells _ (x0.alloc _)).mono ?_
      rw [HE.out]
      rintro e w1 ⟨rfl, hb1⟩
      go_wp2
      refine bodyPost_ret (v := .tuple #[.slice none 0 0, .iface 62 (.int .i64 x.fault)]) (by simp [results, Try.results26, go_sem]) rfl ⟨.slice none 0 0, ?_, (Below.x1 hb1), ?_, ?_⟩
      · rw [HEF.out]
      · exact fun h => absurd h HF.out
      · exact fun _ => rfl
end
end Go.Proofs.Ytchngeagnlngaaa
end
