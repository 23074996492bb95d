/- Texts joined: Blank, Lay4. -/
import Derived.Test.YtchngeagnlngaaaJ11
import Derived.Test.YtchngeagnlngaaaJ10
import Derived.Test.YtchngeagnlngaaaJ14
import Derived.Test.YtchngeagnlngaaaJ02
import Derived.Deep.RegionLaw
import Derived.BigRegion
section
set_option linter.unusedVariables false
set_option linter.unusedSimpArgs false
namespace Go.Proofs.Ytchngeagnlngaaa
open Go.RowKit Gal
theorem ints_box {w : World} {b : Nat} {xs : List Int} {t : TypeId} (h : Box w b (xs.map (Value.int .i64)) t) (hl : xs.length ≤ maxLen) : IntsAt w (some ⟨b, 0, none⟩) xs.length xs.length b 0 xs := by
 refine ⟨rfl, Nat.le_refl _, hl, fun _ => rfl, fun _ => h.lt, fun i hi => ?_⟩
 rw [Nat.zero_add, h.cell]
 unfold ix
 rw [List.getElem?_map, List.getElem?_eq_getElem hi]
 rfl
end Go.Proofs.Ytchngeagnlngaaa
end
section
set_option linter.unusedVariables false
set_option linter.unusedSimpArgs false
namespace Go.Proofs.Ytchngeagnlngaaa
open Go.RowKit Gal
attribute [local go_sem ↓] Go.wp_at_zero Go.wp_at_succ
theorem mat_cols {m : Mat} (h : m.fault = 0) : 0 ≤ m.cols ∧ m.cols ≤ 12 ∧ 0 ≤ m.rows ∧ m.rows ≤ 24 := by
 obtain ⟨R, K, e1, e2, h1, h2, _, _⟩ := matFault_ok h
 omega
set_option maxRecDepth 100000
set_option maxHeartbeats 1000000
theorem layEnter_any (l : Lay) (m : Mat) (v u : Value) (w : World) (h : LayAt w v l) (hu : MatAt w u m) :
  Calls Try.prog 70 #[v, u] w fun e w' => e = .returned (.tuple #[.int .i64 (okOr (l.goFault m) (l.wide m.cols)), errV (l.goFault m)]) ∧ Below w.heap.size w w' := by
 obtain ⟨a, n, k, b, o, a', n', k', b', o', rfl, x0, x1⟩ := h
 obtain ⟨a2, n2, k2, b2, o2, rfl, x2⟩ := hu
 by_cases fl : l.fault = 0
 ·have hE : errV l.fault = .nilIface := errV_nil fl
  by_cases fm : m.fault = 0
  ·have hE1 : errV (matFault m.rows m.cols m.cells) = .nilIface := errV_nil fm
   rw [Lay.goFault_wide fm]
   obtain ⟨c0, c1, _, _⟩ := mat_cols fm
   clear fl fm
   go_enter Try.func70, Try.ntmps70
   go_wp2_with fail
   refine (layCheck_any l _ _ ⟨_, _, _, _, _, _, _, _, _, _, rfl, x0.alloc _ |>.alloc _, x1.alloc _ |>.alloc _⟩).mono ?_
   rintro e w1 ⟨rfl, hb1⟩
   have B0 := ((Box.new w [.int .i64 l.kind, .int .i64 l.W.rows, .int .i64 l.W.cols, .slice a n k, .int .i64 l.B.rows, .int .i64 l.B.cols, .slice a' n' k'] 69).alloc _).keep hb1
   have B0c := B0.cell
   have B0f := B0.thawed
   have B0z := B0.lt
   have B0k := lt_add B0z
   have B1 := (Box.new' _ (w.heap.size + 1) [.int .i64 m.rows, .int .i64 m.cols, .slice a2 n2 k2] 28 (by simp)).keep hb1
   have B1c := B1.cell
   have B1f := B1.thawed
   have B1z := B1.lt
   have B1k := lt_add B1z
   have hkw1 : Below w.heap.size w w1 := (Below.x1 hb1)
   replace x0 := x0.keep hkw1
   replace x1 := x1.keep hkw1
   replace x2 := x2.keep hkw1
   go_wp2_with fail
   refine (matCheck_any _ _ _ _ _ _ _ m.cells _ x2).mono ?_
   rintro e w2 ⟨rfl, hb2⟩
   have hkw2 : Below w1.heap.size w1 w2 := (Below.x1 hb2)
   replace B0 := B0.keep hkw2
   replace B0c := B0.cell
   replace B0f := B0.thawed
   replace B0z := B0.lt
   replace B0k := lt_add B0z
   replace B1 := B1.keep hkw2
   replace B1c := B1.cell
   replace B1f := B1.thawed
   replace B1z := B1.lt
   replace B1k := lt_add B1z
   replace x0 := x0.keep hkw2
   replace x1 := x1.keep hkw2
   go_wp2_with fail
   refine (layWide_any l m.cols _ _ ⟨_, _, _, _, _, _, _, _, _, _, rfl, x0, x1⟩ (by omega)).mono ?_
   rintro e w3 ⟨rfl, hb3⟩
   go_wp2
   go_ret2
   exact ⟨rfl, (by repeat (first | (with_reducible first | exact Below.refl _ _ | refine Below.al ?_ _ | refine Below.drN ?_ _ | refine Below.drew ?_ | refine Below.sx ?_ _ | refine Below.go ?_ hb3 | refine Below.go ?_ hb2 | refine Below.go ?_ hb1) | exact Below.refl _ _))⟩
  ·have hE1 : errV (matFault m.rows m.cols m.cells) = .iface 62 (.int .i64 m.fault) := errV_err fm
   have hg : l.goFault m = m.fault := by unfold Lay.goFault; rw [if_neg (fun h => h fl), if_pos fm]
   rw [hg, okOr_bad fm, errV_err fm]
   clear fl hg fm
   go_enter Try.func70, Try.ntmps70
   go_wp2_with fail
   refine (layCheck_any l _ _ ⟨_, _, _, _, _, _, _, _, _, _, rfl, x0.alloc _ |>.alloc _, x1.alloc _ |>.alloc _⟩).mono ?_
   rintro e w1 ⟨rfl, hb1⟩
   have B1 := (Box.new' _ (w.heap.size + 1) [.int .i64 m.rows, .int .i64 m.cols, .slice a2 n2 k2] 28 (by simp)).keep hb1
   have B1c := B1.cell
   have B1f := B1.thawed
   have B1z := B1.lt
   have B1k := lt_add B1z
   have hkw1 : Below w.heap.size w w1 := (Below.x1 hb1)
   replace x2 := x2.keep hkw1
   go_wp2_with fail
   refine (matCheck_any _ _ _ _ _ _ _ m.cells _ x2).mono ?_
   rintro e w2 ⟨rfl, hb2⟩
   go_wp2
   go_ret2
   exact ⟨rfl, (Below.x2 hb2 hb1)⟩
 ·have hE : errV l.fault = .iface 62 (.int .i64 l.fault) := errV_err fl
  have hg : l.goFault m = l.fault := by unfold Lay.goFault; rw [if_pos fl]
  rw [hg, okOr_bad fl, errV_err fl]
  clear hg fl
  go_enter Try.func70, Try.ntmps70
  go_wp2_with fail
  refine (layCheck_any l _ _ ⟨_, _, _, _, _, _, _, _, _, _, rfl, x0.alloc _ |>.alloc _, x1.alloc _ |>.alloc _⟩).mono ?_
  rintro e w1 ⟨rfl, hb1⟩
  go_wp2
  go_ret2
  exact ⟨rfl, (Below.x1 hb1)⟩
theorem pad_ints {w : World} {b n : Nat} {g : Nat → Int} {t : TypeId} (h : Box w b ((pad g n n).map (Value.int .i64)) t) (hl : n ≤ maxLen) : IntsAt w (some ⟨b, 0, none⟩) n n b 0 (upto g n) := by
 rw [pad_full] at h
 have := ints_box h (by rw [upto_length]; exact hl)
 rw [upto_length] at this
 exact this
theorem each_any (r c : Int) (a0 : Option Addr) (n k0 : Nat) (hn : n ≤ 576) (fid : FuncId) (cs : Array Value) (g : Nat → Int) (w : World)
  (hcf : ∀ (vs : Array Value) (W : World), (callFunc fid vs).run Try.prog W = .ok (.enter fid vs) W)
  (hg : ∀ (i : Nat), i < n → ∀ W, Below w.heap.size w W → Calls Try.prog fid (#[.int .i64 i] ++ cs) W fun e W' => e = .returned (.int .i64 (g i)) ∧ ∃ m, W' = W.drewN m) :
  Calls Try.prog 145 #[.agg #[.int .i64 r, .int .i64 c, .slice a0 n k0], .func (.func fid) #[] cs] w fun e w' =>
   ∃ b, e = .returned (.agg #[.int .i64 r, .int .i64 c, .slice (some ⟨b, 0, none⟩) n n]) ∧ w.heap.size ≤ b ∧ IntsAt w' (some ⟨b, 0, none⟩) n n b 0 (upto g n) ∧ Below w.heap.size w w' := by
 have HG := Lib.hid hg
 clear hg
 obtain ⟨i0, hi, hz0, hz1, hz2⟩ := info_parts info_int
 have hmk := fun W => run_make_rowN (P := Try.prog) 26 3 i0 _ Try.underlying26 hi hz0 .i64 .i64 n n (n : Int) (n : Int) rfl rfl (Nat.le_refl _) (by rw [hz2]; omega) (by omega) W
 rw [hz1, Nat.mul_one] at hmk
 have hmc : (madeCells (Value.int .i64 0).cells n) = ((zeros n).map (Value.int .i64)).toArray := by
  apply Array.toList_inj.1
  show (madeCells #[Value.int .i64 0] n).toList = _
  rw [toList_madeCells_one]
  simp [zeros]
 rw [hmc] at hmk
 clear hmc
 go_enter Try.func145, Try.ntmps145
 go_wp2_with fail
 go_region
 ·skip
  go_wp2_with fail
  go_loopw [19, 6] (fun i _ wr => ∃ k : Nat, k ≤ n ∧ i = .int .i64 k ∧ Below w.heap.size w wr ∧ Box wr (w.heap.size + 1) [.int .i64 0, .int .i64 0, .slice none 0 0] 28 ∧ Box wr (w.heap.size + 1 + 1 + 1) [.int .i64 r, .int .i64 c, .slice (some ⟨w.heap.size + 1 + 1, 0, none⟩) n n] 28 ∧
    Box wr (w.heap.size + 1 + 1) ((pad g n k).map (Value.int .i64)) 3) (fun i _ _ => n - (intOf i).toNat)
  case atStart =>
   refine ⟨0, Nat.zero_le _, rfl, Below.x0, ?_, ?_, ?_⟩
   ·exact ((Box.new' _ _ _ _ (by simp)).alloc _).alloc _
   ·exact Box.new' _ _ _ _ (by simp)
   ·rw [pad_zero]
    exact (Box.new' _ _ _ _ (by simp)).alloc _
  case round =>
   obtain ⟨k, hk, rfl, hbr, B0, Bm, Bc⟩ := hrel
   have B0c := B0.cell
   have B0f := B0.thawed
   have B0z := B0.lt
   have Bmc := Bm.cell
   have Bmz := Bm.lt
   have Bcz := Bc.lt
   by_cases hlt : k < n
   ·have cc := Bc.icell (k := k) (by rw [pad_length]; exact hlt)
    have cf := Bc.thawed k
    go_wp2_with fail
    go_region_law ((go_simp; refine (HG.out k hlt _ ?_).mono ?_; (first | exact hbr | exact hbr.drew | exact ((Below.y0 hbr))); rintro e W' ⟨rfl, nd, rfl⟩))
    all_goals (
     go_wp2
     go_roundw
     case rel => exact ⟨k + 1, by omega, by go_num, (Below.y0 hbr), (by repeat (first | exact B0 | refine Box.drewN ?_ _ | refine Box.drew ?_ | refine Box.alloc ?_ _ | refine Box.far ?_ (by dsimp only; omega) _)), (by repeat (first | exact Bm | refine Box.drewN ?_ _ | refine Box.drew ?_ | refine Box.alloc ?_ _ | refine Box.far ?_ (by dsimp only; omega) _)), by rw [← pad_set hlt]; exact (by repeat (first | exact Bc | refine Box.drewN ?_ _ | refine Box.drew ?_ | refine Box.iset ?_ _ _))⟩
     case measure => simp [intOf]; omega)
   ·obtain rfl : k = n := by omega
    go_wp2
    refine bodyPost_ret (v := .agg #[.int .i64 r, .int .i64 c, .slice (some ⟨w.heap.size + 1 + 1, 0, none⟩) k k]) (by simp [results, Try.results145, go_sem, B0c]) rfl ⟨w.heap.size + 1 + 1, rfl, by omega, ?_, (Below.y0 hbr)⟩
    exact (pad_ints Bc (by unfold maxLen; omega)).set3 (fun _ => by omega) _ _ _
 ·skip
  go_wp2_with fail
  go_loopw [19, 6] (fun i _ wr => ∃ k : Nat, k ≤ n ∧ i = .int .i64 k ∧ Below w.heap.size w wr ∧ Box wr (w.heap.size + 1) [.int .i64 0, .int .i64 0, .slice none 0 0] 28 ∧ Box wr (w.heap.size + 1 + 1) [.int .i64 r, .int .i64 c, .slice (some ⟨w.heap.size + 1 + 1 + 1, 0, none⟩) n n] 28 ∧
    Box wr (w.heap.size + 1 + 1 + 1) ((pad g n k).map (Value.int .i64)) 3) (fun i _ _ => n - (intOf i).toNat)
  case atStart =>
   refine ⟨0, Nat.zero_le _, rfl, Below.x0, ?_, ?_, ?_⟩
   ·exact ((Box.new' _ _ _ _ (by simp)).alloc _).alloc _
   ·exact (Box.new' _ _ _ _ (by simp)).alloc _
   ·rw [pad_zero]
    exact Box.new' _ _ _ _ (by simp)
  case round =>
   obtain ⟨k, hk, rfl, hbr, B0, Bm, Bc⟩ := hrel
   have B0c := B0.cell
   have B0f := B0.thawed
   have B0z := B0.lt
   have Bmc := Bm.cell
   have Bmz := Bm.lt
   have Bcz := Bc.lt
   by_cases hlt : k < n
   ·have cc := Bc.icell (k := k) (by rw [pad_length]; exact hlt)
    have cf := Bc.thawed k
    go_wp2_with fail
    go_region_law ((go_simp; refine (HG.out k hlt _ ?_).mono ?_; (first | exact hbr | exact hbr.drew | exact ((Below.y0 hbr))); rintro e W' ⟨rfl, nd, rfl⟩))
    all_goals (
     go_wp2
     go_roundw
     case rel => exact ⟨k + 1, by omega, by go_num, (Below.y0 hbr), (by repeat (first | exact B0 | refine Box.drewN ?_ _ | refine Box.drew ?_ | refine Box.alloc ?_ _ | refine Box.far ?_ (by dsimp only; omega) _)), (by repeat (first | exact Bm | refine Box.drewN ?_ _ | refine Box.drew ?_ | refine Box.alloc ?_ _ | refine Box.far ?_ (by dsimp only; omega) _)), by rw [← pad_set hlt]; exact (by repeat (first | exact Bc | refine Box.drewN ?_ _ | refine Box.drew ?_ | refine Box.iset ?_ _ _))⟩
     case measure => simp [intOf]; omega)
   ·obtain rfl : k = n := by omega
    go_wp2
    refine bodyPost_ret (v := .agg #[.int .i64 r, .int .i64 c, .slice (some ⟨w.heap.size + 1 + 1 + 1, 0, none⟩) k k]) (by simp [results, Try.results145, go_sem, B0c]) rfl ⟨w.heap.size + 1 + 1 + 1, rfl, by omega, ?_, (Below.y0 hbr)⟩
    exact (pad_ints Bc (by unfold maxLen; omega)).set3 (fun _ => by omega) _ _ _
end Go.Proofs.Ytchngeagnlngaaa
end
