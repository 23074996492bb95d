/- Texts joined: Clk2, Clk3, Plan7, Peak1. -/
import Derived.Test.YtchngeagnlngaaaJ49
import Derived.BigQuiet
import Derived.Deep.LoopGhost
import Derived.Deep.RegionLaw
import Derived.Test.YtchngeagnlngaaaJ48
import Derived.Laws.StructEq
import Derived.Test.YtchngeagnlngaaaJ07
section
set_option linter.unusedVariables false
set_option linter.unusedSimpArgs false
set_option linter.unusedSectionVars false
set_option maxRecDepth 100000
namespace Go.Proofs.Ytchngeagnlngaaa
open Go.RowKit Gal Go.Maps
set_option maxHeartbeats 4000000
theorem clkPlace_no (s : Nat) (a : ActD) (fr t : Int) (D B : Nat) (pa ta ba : Option Addr) (n k kt kb bt bb ot ob : Nat) (th bk : List Int) (l : List ((Int × ActD) × Int)) (w : World) (h : DialAt w D B (.slice pa n k) (.slice ta n kt) (.slice ba n kb) l) (ht : IntsAt w ta n kt bt ot th) (hb : IntsAt w ba n kb bb ob bk)
  (hn : n ≤ 6) (hs : s < n) (ha : actOk 12 a) (hE : endOf n l (besideOf s a) a = (t, false)) :
  Calls Try.prog 51 #[.pointer (some ⟨D, 0, none⟩), .int .i64 s, .agg #[.int .i64 a.1, .int .i64 a.2], .int .i64 fr] w fun e w' => e = .returned (.tuple #[.agg #[.int .i64 0, .int .i64 0], .bool false]) ∧ Below w.heap.size w w' := by
 have hD := (h.alloc (.cells #[.int .i64 a.1, .int .i64 a.2] 122)).alloc (.cells #[.int .i64 0, .int .i64 0] 118)
 have hb2 : Below w.heap.size w ((w.alloc (.cells #[.int .i64 a.1, .int .i64 a.2] 122)).alloc (.cells #[.int .i64 0, .int .i64 0] 118)) := Below.x0
 obtain rfl := ht.ptr (by omega)
 obtain rfl := hb.ptr (by omega)
 have c1 := hD.box.cell 1
 have c2 := hD.box.cell 2
 have ct := (ht.keep hb2).cell s hs
 have cb := (hb.keep hb2).cell s hs
 have hmx := ht.max
 unfold maxLen at hmx
 have ba : Box ((w.alloc (.cells #[.int .i64 a.1, .int .i64 a.2] 122)).alloc (.cells #[.int .i64 0, .int .i64 0] 118)) w.heap.size [.int .i64 a.1, .int .i64 a.2] 122 := (Box.new' w w.heap.size [.int .i64 a.1, .int .i64 a.2] 122 rfl).alloc _
 have bs : Box ((w.alloc (.cells #[.int .i64 a.1, .int .i64 a.2] 122)).alloc (.cells #[.int .i64 0, .int .i64 0] 118)) (w.heap.size + 1) [.int .i64 0, .int .i64 0] 118 := Box.new' (w.alloc (.cells #[.int .i64 a.1, .int .i64 a.2] 122)) (w.heap.size + 1) [.int .i64 0, .int .i64 0] 118 (by simp)
 obtain ⟨lt, hlt⟩ : ∃ lt, ix th s = lt := ⟨_, rfl⟩
 obtain ⟨lb, hlb⟩ : ∃ lb, ix bk s = lb := ⟨_, rfl⟩
 rw [hlt] at ct
 rw [hlb] at cb
 have s0 : (0 : Int) ≤ (s : Int) := by omega
 have s1 : (s : Int) < (n : Int) := by omega
 obtain ⟨x0, x1⟩ := a
 dsimp only at *
 have HE := Lib.hid hE
 unfold besideOf at HE
 dsimp only at HE
 clear hE
 by_cases hk : x0 = 2
 ·have e1 : (x0 == 2) = true := by simp [hk]
  rw [if_pos hk] at HE
  clear hk
  go_enter Try.func51, Try.ntmps51
  go_wp2
  go_quiet (fail)
  go_wp2
  go_quiet (fail)
  go_wp2_with fail
  refine (clkEnd_any ((s : Int) + 1) (x0, x1) D B pa n k _ _ l _ (hD.drewN _) hn ha).mono ?_
  rintro e wy ⟨rfl, hby⟩
  rw [HE.out]
  dsimp only
  replace bs := (bs.drewN _).keep hby
  replace ba := (ba.drewN _).keep hby
  have p0 := bs.cell 0
  have p1 := bs.cell 1
  have f0 := bs.thawed 0
  have f1 := bs.thawed 1
  have bz := (bs.set 0 (.int .i64 0)).set 1 (.int .i64 0)
  have z0 := bz.cell 0
  have z1 := bz.cell 1
  go_wp2
  refine bodyPost_ret (v := .tuple #[.agg #[.int .i64 0, .int .i64 0], .bool false]) (by simp [results, Try.results51, go_sem, z0, z1]) rfl ⟨rfl, (Below.x1 hby)⟩
 ·have e1 : (x0 == 2) = false := by simp [hk]
  rw [if_neg hk] at HE
  clear hk
  go_enter Try.func51, Try.ntmps51
  go_wp2
  go_quiet (fail)
  go_wp2_with fail
  refine (clkEnd_any ((s : Int) - 1) (x0, x1) D B pa n k _ _ l _ (hD.drewN _) hn ha).mono ?_
  rintro e wy ⟨rfl, hby⟩
  rw [HE.out]
  dsimp only
  replace bs := (bs.drewN _).keep hby
  replace ba := (ba.drewN _).keep hby
  have p0 := bs.cell 0
  have p1 := bs.cell 1
  have f0 := bs.thawed 0
  have f1 := bs.thawed 1
  have bz := (bs.set 0 (.int .i64 0)).set 1 (.int .i64 0)
  have z0 := bz.cell 0
  have z1 := bz.cell 1
  go_wp2
  refine bodyPost_ret (v := .tuple #[.agg #[.int .i64 0, .int .i64 0], .bool false]) (by simp [results, Try.results51, go_sem, z0, z1]) rfl ⟨rfl, (Below.x1 hby)⟩
theorem DialAt.ne {w : World} {D B : Nat} {vp vt vb : Value} {l : List ((Int × ActD) × Int)} (h : DialAt w D B vp vt vb l) : D ≠ B := fun e => by
 obtain ⟨es, c, hb, _⟩ := h.map
 have h1 := h.box
 unfold Box at h1
 rw [e, hb] at h1
 cases h1
theorem clkPlace_ok (s : Nat) (a : ActD) (fr t : Int) (D B : Nat) (pa ta ba : Option Addr) (n k kt kb bt bb ot ob : Nat) (th bk : List Int) (l : List ((Int × ActD) × Int)) (w : World) (h : DialAt w D B (.slice pa n k) (.slice ta n kt) (.slice ba n kb) l) (ht : IntsAt w ta n kt bt ot th) (hb : IntsAt w ba n kb bb ob bk)
  (hn : n ≤ 6) (hs : s < n) (ha : actOk 12 a) (hE : endOf n l (besideOf s a) a = (t, true)) (hnew : ∀ p ∈ l, p.1 ≠ ((s : Int), a)) (hfr : 0 ≤ fr ∧ fr ≤ 1000000000) (htb : 0 ≤ t ∧ t ≤ 1000000000) (hlg : 1 ≤ longOf th bk s a ∧ longOf th bk s a ≤ 1000000) :
  Calls Try.prog 51 #[.pointer (some ⟨D, 0, none⟩), .int .i64 s, .agg #[.int .i64 a.1, .int .i64 a.2], .int .i64 fr] w fun e w' => e = .returned (.tuple #[.agg #[.int .i64 (max fr t), .int .i64 (max fr t + longOf th bk s a)], .bool true]) ∧ DialAt w' D B (.slice pa n k) (.slice ta n kt) (.slice ba n kb) (l ++ [(((s : Int), a), max fr t + longOf th bk s a)]) ∧ Far (fun b => b = B) w w' := by
 have hD := (h.alloc (.cells #[.int .i64 a.1, .int .i64 a.2] 122)).alloc (.cells #[.int .i64 0, .int .i64 0] 118)
 have hb2 : Below w.heap.size w ((w.alloc (.cells #[.int .i64 a.1, .int .i64 a.2] 122)).alloc (.cells #[.int .i64 0, .int .i64 0] 118)) := Below.x0
 obtain rfl := ht.ptr (by omega)
 obtain rfl := hb.ptr (by omega)
 have c1 := hD.box.cell 1
 have c2 := hD.box.cell 2
 have ct := (ht.keep hb2).cell s hs
 have cb := (hb.keep hb2).cell s hs
 have hmx := ht.max
 unfold maxLen at hmx
 have ba : Box ((w.alloc (.cells #[.int .i64 a.1, .int .i64 a.2] 122)).alloc (.cells #[.int .i64 0, .int .i64 0] 118)) w.heap.size [.int .i64 a.1, .int .i64 a.2] 122 := (Box.new' w w.heap.size [.int .i64 a.1, .int .i64 a.2] 122 rfl).alloc _
 have bs : Box ((w.alloc (.cells #[.int .i64 a.1, .int .i64 a.2] 122)).alloc (.cells #[.int .i64 0, .int .i64 0] 118)) (w.heap.size + 1) [.int .i64 0, .int .i64 0] 118 := Box.new' (w.alloc (.cells #[.int .i64 a.1, .int .i64 a.2] 122)) (w.heap.size + 1) [.int .i64 0, .int .i64 0] 118 (by simp)
 obtain ⟨lt, hlt⟩ : ∃ lt, ix th s = lt := ⟨_, rfl⟩
 obtain ⟨lb, hlb⟩ : ∃ lb, ix bk s = lb := ⟨_, rfl⟩
 rw [hlt] at ct
 rw [hlb] at cb
 have s0 : (0 : Int) ≤ (s : Int) := by omega
 have s1 : (s : Int) < (n : Int) := by omega
 obtain ⟨x0, x1⟩ := a
 dsimp only at *
 have HE := Lib.hid hE
 unfold besideOf at HE
 dsimp only at HE
 unfold longOf at hlg ⊢
 dsimp only at hlg ⊢
 obtain ⟨fr0, fr1⟩ := hfr
 obtain ⟨t0, t1⟩ := htb
 clear hE
 by_cases hk : x0 = 2
 ·have e1 : (x0 == 2) = true := by simp [hk]
  rw [if_pos hk] at HE hlg
  rw [if_pos hk, hlb]
  rw [hlb] at hlg
  obtain ⟨l0, l1⟩ := hlg
  clear hk hlt hlb
  go_enter Try.func51, Try.ntmps51
  go_wp2
  go_quiet (fail)
  go_wp2
  go_quiet (fail)
  go_wp2_with fail
  refine (clkEnd_any ((s : Int) + 1) (x0, x1) D B pa n k _ _ l _ (hD.drewN _) hn ha).mono ?_
  rintro e wy ⟨rfl, hby⟩
  rw [HE.out]
  dsimp only
  replace bs := (bs.drewN _).keep hby
  replace ba := (ba.drewN _).keep hby
  replace hnew : ∀ p ∈ l, p.1 ≠ ((s : Int), (x0, x1)) := hnew
  have hDy := (hD.drewN _).keep hby
  clear hD ct cb c1 c2
  by_cases hm : fr < t
  ·skip
   obtain ⟨kl, hkl⟩ := at3_keyOf (x := ((s : Int), (x0, x1))) (by dsimp only; omega) ha
   obtain ⟨w2, hup, hm2, ho2⟩ := hDy.map.drew.update at3_keyed Try.underlying112 zero_int atV_inj hkl hnew (t + lb)
   unfold atV at hup
   dsimp only at hup
   have c3 := hDy.box.cell 3
   have a0 := ba.cell 0
   have a1 := ba.cell 1
   have bs2 := Box.only bs.drew ho2 (by have := h.map.lt; omega)
   have bD2 := Box.only hDy.box.drew ho2 h.ne
   have p0 := bs2.cell 0
   have p1 := bs2.cell 1
   have f0 := bs2.thawed 0
   have f1 := bs2.thawed 1
   have bz := (bs2.set 0 (.int .i64 (t))).set 1 (.int .i64 (t + lb))
   have z0 := bz.cell 0
   have z1 := bz.cell 1
   have HMX : Hid (max fr t = t) := Lib.hid (by omega)
   have hfw : Far (fun b => b = B) w ((w2.setCell ⟨w.heap.size + 1, 0, none⟩ (.int .i64 (t))).setCell ⟨w.heap.size + 1, 1, none⟩ (.int .i64 (t + lb))) :=
    ((Far.grown ((((Far.of_below hb2).drN _).go hby).drew) ho2.1 (fun k hk _ => by cases hk; rfl)).st (fun hh => by dsimp only at hh; omega) _).st (fun hh => by dsimp only at hh; omega) _
   have hdw : DialAt ((w2.setCell ⟨w.heap.size + 1, 0, none⟩ (.int .i64 (t))).setCell ⟨w.heap.size + 1, 1, none⟩ (.int .i64 (t + lb))) D B (.slice pa n k) (.slice (some ⟨bt, ot, none⟩) n kt) (.slice (some ⟨bb, ob, none⟩) n kb) (l ++ [(((s : Int), (x0, x1)), t + lb)]) :=
    ⟨(bD2.far (by have := h.box.lt; dsimp only; omega) _).far (by have := h.box.lt; dsimp only; omega) _, (hm2.far (by have := h.map.lt; dsimp only; omega) _).far (by have := h.map.lt; dsimp only; omega) _⟩
   have HFW := Lib.hid hfw
   have HDW := Lib.hid hdw
   clear hm2 ho2 bD2 bz bs2 hfw hdw hkl
   go_wp2
   go_region
   all_goals
    go_wp2
    refine bodyPost_ret (v := .tuple #[.agg #[.int .i64 (t), .int .i64 (t + lb)], .bool true]) (by simp [results, Try.results51, go_sem, z0, z1]) rfl ⟨by rw [HMX.out], by rw [HMX.out]; exact HDW.out, HFW.out⟩
  ·have e3 : (fr < t) = False := by simp; omega
   obtain ⟨kl, hkl⟩ := at3_keyOf (x := ((s : Int), (x0, x1))) (by dsimp only; omega) ha
   obtain ⟨w2, hup, hm2, ho2⟩ := hDy.map.drew.update at3_keyed Try.underlying112 zero_int atV_inj hkl hnew (fr + lb)
   unfold atV at hup
   dsimp only at hup
   have c3 := hDy.box.cell 3
   have a0 := ba.cell 0
   have a1 := ba.cell 1
   have bs2 := Box.only bs.drew ho2 (by have := h.map.lt; omega)
   have bD2 := Box.only hDy.box.drew ho2 h.ne
   have p0 := bs2.cell 0
   have p1 := bs2.cell 1
   have f0 := bs2.thawed 0
   have f1 := bs2.thawed 1
   have bz := (bs2.set 0 (.int .i64 (fr))).set 1 (.int .i64 (fr + lb))
   have z0 := bz.cell 0
   have z1 := bz.cell 1
   have HMX : Hid (max fr t = fr) := Lib.hid (by omega)
   have hfw : Far (fun b => b = B) w ((w2.setCell ⟨w.heap.size + 1, 0, none⟩ (.int .i64 (fr))).setCell ⟨w.heap.size + 1, 1, none⟩ (.int .i64 (fr + lb))) :=
    ((Far.grown ((((Far.of_below hb2).drN _).go hby).drew) ho2.1 (fun k hk _ => by cases hk; rfl)).st (fun hh => by dsimp only at hh; omega) _).st (fun hh => by dsimp only at hh; omega) _
   have hdw : DialAt ((w2.setCell ⟨w.heap.size + 1, 0, none⟩ (.int .i64 (fr))).setCell ⟨w.heap.size + 1, 1, none⟩ (.int .i64 (fr + lb))) D B (.slice pa n k) (.slice (some ⟨bt, ot, none⟩) n kt) (.slice (some ⟨bb, ob, none⟩) n kb) (l ++ [(((s : Int), (x0, x1)), fr + lb)]) :=
    ⟨(bD2.far (by have := h.box.lt; dsimp only; omega) _).far (by have := h.box.lt; dsimp only; omega) _, (hm2.far (by have := h.map.lt; dsimp only; omega) _).far (by have := h.map.lt; dsimp only; omega) _⟩
   have HFW := Lib.hid hfw
   have HDW := Lib.hid hdw
   clear hm2 ho2 bD2 bz bs2 hfw hdw hkl
   go_wp2
   go_region
   all_goals
    go_wp2
    refine bodyPost_ret (v := .tuple #[.agg #[.int .i64 (fr), .int .i64 (fr + lb)], .bool true]) (by simp [results, Try.results51, go_sem, z0, z1]) rfl ⟨by rw [HMX.out], by rw [HMX.out]; exact HDW.out, HFW.out⟩
 ·have e1 : (x0 == 2) = false := by simp [hk]
  rw [if_neg hk] at HE hlg
  rw [if_neg hk, hlt]
  rw [hlt] at hlg
  obtain ⟨l0, l1⟩ := hlg
  clear hk hlt hlb
  go_enter Try.func51, Try.ntmps51
  go_wp2
  go_quiet (fail)
  go_wp2_with fail
  refine (clkEnd_any ((s : Int) - 1) (x0, x1) D B pa n k _ _ l _ (hD.drewN _) hn ha).mono ?_
  rintro e wy ⟨rfl, hby⟩
  rw [HE.out]
  dsimp only
  replace bs := (bs.drewN _).keep hby
  replace ba := (ba.drewN _).keep hby
  replace hnew : ∀ p ∈ l, p.1 ≠ ((s : Int), (x0, x1)) := hnew
  have hDy := (hD.drewN _).keep hby
  clear hD ct cb c1 c2
  by_cases hm : fr < t
  ·skip
   obtain ⟨kl, hkl⟩ := at3_keyOf (x := ((s : Int), (x0, x1))) (by dsimp only; omega) ha
   obtain ⟨w2, hup, hm2, ho2⟩ := hDy.map.drew.update at3_keyed Try.underlying112 zero_int atV_inj hkl hnew (t + lt)
   unfold atV at hup
   dsimp only at hup
   have c3 := hDy.box.cell 3
   have a0 := ba.cell 0
   have a1 := ba.cell 1
   have bs2 := Box.only bs.drew ho2 (by have := h.map.lt; omega)
   have bD2 := Box.only hDy.box.drew ho2 h.ne
   have p0 := bs2.cell 0
   have p1 := bs2.cell 1
   have f0 := bs2.thawed 0
   have f1 := bs2.thawed 1
   have bz := (bs2.set 0 (.int .i64 (t))).set 1 (.int .i64 (t + lt))
   have z0 := bz.cell 0
   have z1 := bz.cell 1
   have HMX : Hid (max fr t = t) := Lib.hid (by omega)
   have hfw : Far (fun b => b = B) w ((w2.setCell ⟨w.heap.size + 1, 0, none⟩ (.int .i64 (t))).setCell ⟨w.heap.size + 1, 1, none⟩ (.int .i64 (t + lt))) :=
    ((Far.grown ((((Far.of_below hb2).drN _).go hby).drew) ho2.1 (fun k hk _ => by cases hk; rfl)).st (fun hh => by dsimp only at hh; omega) _).st (fun hh => by dsimp only at hh; omega) _
   have hdw : DialAt ((w2.setCell ⟨w.heap.size + 1, 0, none⟩ (.int .i64 (t))).setCell ⟨w.heap.size + 1, 1, none⟩ (.int .i64 (t + lt))) D B (.slice pa n k) (.slice (some ⟨bt, ot, none⟩) n kt) (.slice (some ⟨bb, ob, none⟩) n kb) (l ++ [(((s : Int), (x0, x1)), t + lt)]) :=
    ⟨(bD2.far (by have := h.box.lt; dsimp only; omega) _).far (by have := h.box.lt; dsimp only; omega) _, (hm2.far (by have := h.map.lt; dsimp only; omega) _).far (by have := h.map.lt; dsimp only; omega) _⟩
   have HFW := Lib.hid hfw
   have HDW := Lib.hid hdw
   clear hm2 ho2 bD2 bz bs2 hfw hdw hkl
   go_wp2
   go_region
   all_goals
    go_wp2
    refine bodyPost_ret (v := .tuple #[.agg #[.int .i64 (t), .int .i64 (t + lt)], .bool true]) (by simp [results, Try.results51, go_sem, z0, z1]) rfl ⟨by rw [HMX.out], by rw [HMX.out]; exact HDW.out, HFW.out⟩
  ·have e3 : (fr < t) = False := by simp; omega
   obtain ⟨kl, hkl⟩ := at3_keyOf (x := ((s : Int), (x0, x1))) (by dsimp only; omega) ha
   obtain ⟨w2, hup, hm2, ho2⟩ := hDy.map.drew.update at3_keyed Try.underlying112 zero_int atV_inj hkl hnew (fr + lt)
   unfold atV at hup
   dsimp only at hup
   have c3 := hDy.box.cell 3
   have a0 := ba.cell 0
   have a1 := ba.cell 1
   have bs2 := Box.only bs.drew ho2 (by have := h.map.lt; omega)
   have bD2 := Box.only hDy.box.drew ho2 h.ne
   have p0 := bs2.cell 0
   have p1 := bs2.cell 1
   have f0 := bs2.thawed 0
   have f1 := bs2.thawed 1
   have bz := (bs2.set 0 (.int .i64 (fr))).set 1 (.int .i64 (fr + lt))
   have z0 := bz.cell 0
   have z1 := bz.cell 1
   have HMX : Hid (max fr t = fr) := Lib.hid (by omega)
   have hfw : Far (fun b => b = B) w ((w2.setCell ⟨w.heap.size + 1, 0, none⟩ (.int .i64 (fr))).setCell ⟨w.heap.size + 1, 1, none⟩ (.int .i64 (fr + lt))) :=
    ((Far.grown ((((Far.of_below hb2).drN _).go hby).drew) ho2.1 (fun k hk _ => by cases hk; rfl)).st (fun hh => by dsimp only at hh; omega) _).st (fun hh => by dsimp only at hh; omega) _
   have hdw : DialAt ((w2.setCell ⟨w.heap.size + 1, 0, none⟩ (.int .i64 (fr))).setCell ⟨w.heap.size + 1, 1, none⟩ (.int .i64 (fr + lt))) D B (.slice pa n k) (.slice (some ⟨bt, ot, none⟩) n kt) (.slice (some ⟨bb, ob, none⟩) n kb) (l ++ [(((s : Int), (x0, x1)), fr + lt)]) :=
    ⟨(bD2.far (by have := h.box.lt; dsimp only; omega) _).far (by have := h.box.lt; dsimp only; omega) _, (hm2.far (by have := h.map.lt; dsimp only; omega) _).far (by have := h.map.lt; dsimp only; omega) _⟩
   have HFW := Lib.hid hfw
   have HDW := Lib.hid hdw
   clear hm2 ho2 bD2 bz bs2 hfw hdw hkl
   go_wp2
   go_region
   all_goals
    go_wp2
    refine bodyPost_ret (v := .tuple #[.agg #[.int .i64 (fr), .int .i64 (fr + lt)], .bool true]) (by simp [results, Try.results51, go_sem, z0, z1]) rfl ⟨by rw [HMX.out], by rw [HMX.out]; exact HDW.out, HFW.out⟩
end Go.Proofs.Ytchngeagnlngaaa
end
section
set_option linter.unusedVariables false
set_option linter.unusedSimpArgs false
set_option linter.unusedSectionVars false
set_option maxRecDepth 100000
namespace Gal
open Go Go.RowKit
theorem step_push {P : Program} {w : World} {α : Type} {ops : Array Oper} {o : Oper} {a : Act} {K : Act → World → Prop} {Q : Exit → Act → World → Prop} {E : Prop} (hgd : o.guard = none) (s x : Operand) (t : TypeId)
  (ho : o.op = .call { callee := .builtin .append, args := #[s, x], argTypes := #[t, t] })
  (f : Form α) (base : Nat) (F : Nat → Prop) (e : TypeId) (i : TypeInfo) (z : Value) (bytes : Nat) (ht : P.underlying t = some (.slice e)) (hi : P.info? e = some i) (hz : i.zero = some z)
  (hsize : i.size = f.size) (hby : i.bytes = bytes) (hzs : z.cells.size = f.size) (hsz : 0 < f.size)
  (v : Value) (xs : List α) (hs : a.eval s = v) (hown : OwnRow f e w base F v xs)
  (b c : Nat) (cs : List Value) (te : TypeId) (y : α) (hx : a.eval x = .slice (some ⟨b, 0, none⟩) 1 c) (hbox : Box w b cs te) (hr : f.reads w (fun b => F b ∧ v.ownBlock ≠ some b) cs y)
  (hbytes : (xs.length + 1) * bytes ≤ 140737488355328) (hlen : xs.length + 1 ≤ maxLen) (hbase : base ≤ w.heap.size) (H : Nat) (hH : w.heap.size = H)
  (h : ∀ g cap w', OwnRow f e w' base F (.slice (some ⟨g, 0, none⟩) (xs.length + 1) cap) (xs ++ [y]) → w.grownBy w' v.ownBlock → (v.ownBlock = some g ∨ g = H) → g < w'.heap.size → K (a.put o.dst (.slice (some ⟨g, 0, none⟩) (xs.length + 1) cap)) w') :
  if Region.wanted o (yielded ops a.tmps) = true then Oper.wp P o a w K Q else E := by
 rw [if_pos (by simp [Region.wanted, hgd])]
 exact wp_push s x t ho f base F e i z bytes ht hi hz hsize hby hzs hsz v xs hs hown b c cs te y hx hbox hr hbytes hlen hbase H hH h
end Gal
namespace Go.Proofs.Ytchngeagnlngaaa
open Go.RowKit Gal Go.Maps
set_option maxHeartbeats 4000000
theorem clkCosts_any (a : Option Addr) (n k m : Nat) (w : World) (hn : n ≤ maxLen) (hm : m ≤ maxLen) : Calls Try.prog 50 #[.slice a n k, .int .i64 m] w fun e w' => e = .returned (if n = m then .nilIface else errV 2) ∧ w = w' := by
 unfold maxLen at hn hm
 by_cases h : n = m
 ·have e1 : ((n : Int) != (m : Int)) = false := by simp [h]
  rw [if_pos h]
  clear h
  go_enter Try.func50, Try.ntmps50
  go_wp2
  go_ret
  exact ⟨rfl, rfl⟩
 ·have e1 : ((n : Int) != (m : Int)) = true := by simp; omega
  rw [if_neg h]
  clear h
  go_enter Try.func50, Try.ntmps50
  go_wp2
  go_ret
  exact ⟨rfl, rfl⟩
structure OutIs (w : World) (O n : Nat) (vs : Nat → Value) (X : Nat → List SpanD) : Prop where
 box : Box w O ((List.range n).map vs) 116
 own : ∀ s, s < n → OwnRow Form.act 118 w (O + 1) noB (vs s) (X s)
 apart : ∀ s t, s < n → t < n → s ≠ t → ∀ g, (vs s).ownBlock = some g → (vs t).ownBlock ≠ some g
theorem OutIs.keep {w w' : World} {O n : Nat} {vs : Nat → Value} {X : Nat → List SpanD} (h : OutIs w O n vs X) (hb : Below w.heap.size w w') : OutIs w' O n vs X := ⟨h.box.keep hb, fun s hs => (h.own s hs).keep hb, h.apart⟩
theorem OutIs.drewN {w : World} {O n : Nat} {vs : Nat → Value} {X : Nat → List SpanD} (h : OutIs w O n vs X) (q : Nat) : OutIs (w.drewN q) O n vs X := h.keep ⟨rfl, rfl, rfl, Nat.le_refl _, fun _ _ => rfl⟩
theorem OutIs.farS {w w' : World} {O n : Nat} {S : Nat → Prop} {vs : Nat → Value} {X : Nat → List SpanD} (h : OutIs w O n vs X) (hf : Far S w w') (hS : ∀ k, S k → k < O) : OutIs w' O n vs X :=
 ⟨h.box.farS hf (fun hh => by have := hS _ hh; omega), fun s hs => (h.own s hs).farS hf (fun b hb hh => by have := hS _ hh; have := ((h.own s hs).base_le b hb).1; omega) (fun b hb _ _ hh => hb.elim), h.apart⟩
theorem OutIs.cell {w : World} {O n : Nat} {vs : Nat → Value} {X : Nat → List SpanD} (h : OutIs w O n vs X) {s : Nat} (hs : s < n) : w.cell? ⟨O, s, none⟩ = some (vs s) := by
 rw [h.box.cell, List.getElem?_map, List.getElem?_range hs]
 rfl
theorem OutIs.push {w w' : World} {O n : Nat} {vs : Nat → Value} {X : Nat → List SpanD} (h : OutIs w O n vs X) {s : Nat} (hs : s < n) {x : SpanD} {g m cap : Nat} (hown : OwnRow Form.act 118 w' (O + 1) noB (.slice (some ⟨g, 0, none⟩) m cap) (X s ++ [x])) (hg : w.grownBy w' (vs s).ownBlock) (hb : (vs s).ownBlock = some g ∨ g = w.heap.size) :
  OutIs (w'.setCell ⟨O, s, none⟩ (.slice (some ⟨g, 0, none⟩) m cap)) O n (fun r => if r = s then .slice (some ⟨g, 0, none⟩) m cap else vs r) (putRow X s x) := by
 have hgO : O + 1 ≤ g := (hown.base_le g rfl).1
 have hgrow : ∀ r, r < n → r ≠ s → OwnRow Form.act 118 w' (O + 1) noB (vs r) (X r) := fun r hr e => (h.own r hr).grown hg (fun b hb2 e2 => h.apart r s hr hs e b hb2 e2.symm) (fun b hb2 => hb2.elim)
 have hbw : Box w' O ((List.range n).map vs) 116 := h.box.grown hg (fun e => by have := ((h.own s hs).base_le O (by rw [← e])).1; omega)
 refine ⟨?_, fun r hr => ?_, fun r t hr ht e b hb1 => ?_⟩
 ·have h1 := hbw.set s (.slice (some ⟨g, 0, none⟩) m cap)
  have h2 : ((List.range n).map vs).set s (.slice (some ⟨g, 0, none⟩) m cap) = (List.range n).map (fun r => if r = s then .slice (some ⟨g, 0, none⟩) m cap else vs r) := by
   apply List.ext_getElem?
   intro i
   rw [List.getElem?_set, List.getElem?_map, List.getElem?_map, List.length_map, List.length_range]
   rcases Nat.lt_or_ge i n with hi | hi
   ·rw [List.getElem?_range hi]
    by_cases e : s = i
    ·subst e; rw [if_pos rfl, if_pos hi]; simp
    ·rw [if_neg e]; simp [show i ≠ s from fun h => e h.symm]
   ·rw [List.getElem?_eq_none (by simpa using hi)]
    by_cases e : s = i
    ·omega
    ·rw [if_neg e]; rfl
  rw [h2] at h1
  exact h1
 ·unfold putRow
  by_cases e : r = s
  ·subst e
   rw [if_pos rfl, if_pos rfl]
   exact hown.set (fun e2 => by simp [Value.ownBlock] at e2; omega) (fun hh => hh.elim) _
  ·rw [if_neg e, if_neg e]
   exact (hgrow r hr e).set (fun e2 => by have := ((h.own r hr).base_le _ e2).1; dsimp only at this; omega) (fun hh => hh.elim) _
 ·have hfresh : ∀ r, r < n → (vs r).ownBlock ≠ some w.heap.size := fun r hr e2 => by have := ((h.own r hr).base_le _ e2).2; omega
  by_cases e1 : r = s
  ·subst e1
   rw [if_pos rfl] at hb1
   rw [if_neg (fun e2 => e e2.symm)]
   simp only [Value.ownBlock, Option.some.injEq] at hb1
   subst hb1
   rcases hb with hb | hb
   ·exact h.apart r t hr ht e g hb
   ·rw [hb]; exact hfresh t ht
  ·rw [if_neg e1] at hb1
   by_cases e2 : t = s
   ·subst e2
    rw [if_pos rfl]
    intro e3
    simp only [Value.ownBlock, Option.some.injEq] at e3
    subst e3
    rcases hb with hb | hb
    ·exact h.apart t r ht hr (fun e4 => e e4.symm) g hb hb1
    ·rw [hb] at hb1; exact hfresh r hr hb1
   ·rw [if_neg e2]; exact h.apart r t hr ht e b hb1
theorem OutIs.row {w : World} {O n : Nat} {vs : Nat → Value} {X : Nat → List SpanD} (h : OutIs w O n vs X) (hn : n ≤ maxLen) : RowAt Form.plan w anyB (some ⟨O, 0, none⟩) n n O 0 ((List.range n).map X) where
 len := by simp
 le := Nat.le_refl _
 maxc := hn
 ptr := fun _ => rfl
 lt := fun _ => h.box.lt
 blk := fun _ => trivial
 cell := fun i x hx => by
  have hi : i < n := by
   rcases Nat.lt_or_ge i n with h1 | h1
   ·exact h1
   ·rw [List.getElem?_eq_none (by simpa using h1)] at hx; cases hx
  rw [List.getElem?_map, List.getElem?_range hi] at hx
  simp only [Option.map_some, Option.some.injEq] at hx
  subst hx
  obtain ⟨a1, k1, b1, e, _, hr⟩ := (h.own i hi).row (G := anyB) (fun _ _ _ => trivial) (fun _ _ => trivial)
  refine ⟨[vs i], ⟨a1, _, k1, b1, 0, by rw [e], hr⟩, fun j hj => ?_⟩
  obtain rfl : j = 0 := by have : Form.plan.size = 1 := rfl; omega
  rw [show Form.plan.size = 1 from rfl, Nat.zero_add, Nat.mul_one, Nat.add_zero, h.cell hi]
  rfl
end Go.Proofs.Ytchngeagnlngaaa
end
section
set_option linter.unusedVariables false
set_option linter.unusedSimpArgs false
set_option linter.unusedSectionVars false
namespace Gal
theorem drop_ax {l : List ActD} {t : Nat} (h : t < l.length) : l.drop t = ax l t :: l.drop (t + 1) := by
 rw [List.drop_eq_getElem_cons h]
 have := ax_get h
 rw [List.getElem?_eq_getElem h] at this
 simp only [Option.some.injEq] at this
 rw [this]
theorem drop_px {p : PlanD} {t : Nat} (h : t < p.length) : p.drop t = px p t :: p.drop (t + 1) := by
 rw [List.drop_eq_getElem_cons h]
 have := px_get h
 rw [List.getElem?_eq_getElem h] at this
 simp only [Option.some.injEq] at this
 rw [this]
end Gal
namespace Go.Proofs.Ytchngeagnlngaaa
open Go.RowKit Gal Go.Maps
set_option maxRecDepth 100000
set_option maxHeartbeats 4000000
end Go.Proofs.Ytchngeagnlngaaa
end
section
set_option linter.unusedVariables false
set_option linter.unusedSimpArgs false
set_option linter.unusedSectionVars false
namespace Gal
theorem stage_len {m : Nat} {p : PlanD} (h : planFault m p = 0) : ¬ planBad m p ∧ ∀ s, s < p.length → actsFault m (px p s) = 0 := by
 unfold planFault at h
 by_cases h1 : planBad m p
 ·rw [if_pos h1] at h; exact absurd h (by decide)
 ·rw [if_neg h1] at h
  by_cases h2 : stageFault m p = 0
  ·refine ⟨h1, fun s => ?_⟩
   induction s using Nat.strongRecOn with
   | ind s ih =>
    intro hs
    by_cases h3 : actsFault m (px p s) = 0
    ·exact h3
    ·exact absurd (stageFault_some hs h3 fun r hr => ih r hr (by omega)) (by rw [h2]; exact fun e => h3 e.symm)
  ·rw [if_pos h2] at h; exact absurd h h2
end Gal
namespace Go.Proofs.Ytchngeagnlngaaa
open Go.RowKit Gal Go.Maps
set_option maxRecDepth 100000
set_option maxHeartbeats 4000000
end Go.Proofs.Ytchngeagnlngaaa
end
