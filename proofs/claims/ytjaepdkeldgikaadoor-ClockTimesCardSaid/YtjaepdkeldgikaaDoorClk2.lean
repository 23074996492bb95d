/- Contracts of package clock: place. -/
import Derived.Test.YtjaepdkeldgikaaDoorClk1
import Derived.BigQuiet
set_option linter.unusedVariables false
set_option linter.unusedSimpArgs false
set_option linter.unusedSectionVars false
set_option maxRecDepth 100000
namespace Go.Proofs.YtjaepdkeldgikaaDoor
open Go.RowKit Gal Go.Maps
set_option maxHeartbeats 4000000
theorem clkPlace_no (s : Nat) (a : ActD) (fr t : Int) (D B : Nat) (pa ta ba : Option Addr) (n k kt kb bt bb ot ob : Nat) (th bk : List Int) (l : List ((Int × ActD) × Int)) (w : World) (h : DialAt w D B (.slice pa n k) (.slice ta n kt) (.slice ba n kb) l) (ht : IntsAt w ta n kt bt ot th) (hb : IntsAt w ba n kb bb ob bk)
    (hn : n ≤ 6) (hs : s < n) (ha : actOk 12 a) (hE : endOf n l (besideOf s a) a = (t, false)) :
    Calls Tryd.prog 53 #[.pointer (some ⟨D, 0, none⟩), .int .i64 s, .agg #[.int .i64 a.1, .int .i64 a.2], .int .i64 fr] w fun e w' => e = .returned (.tuple #[.agg #[.int .i64 0, .int .i64 0], .bool false]) ∧ Below w.heap.size w w' := by
  have hD := (h.alloc (.cells #[.int .i64 a.1, .int .i64 a.2] 73)).alloc (.cells #[.int .i64 0, .int .i64 0] 65)
  have hb2 : Below w.heap.size w ((w.alloc (.cells #[.int .i64 a.1, .int .i64 a.2] 73)).alloc (.cells #[.int .i64 0, .int .i64 0] 65)) := (by repeat (first | fail | (with_reducible exact Below.refl _ _) | (with_reducible refine Below.al ?_ _) | (with_reducible refine Below.drN ?_ _) | (with_reducible refine Below.drew ?_) | (with_reducible refine Below.st ?_ ?_ _; rotate_left 1; (first | (dsimp only; omega) | omega | (simp; omega) | simp)) | exact Below.refl _ _))
  obtain rfl := ht.ptr (by omega)
  obtain rfl := hb.ptr (by omega)
  have c1 := hD.box.cell 1
  have c2 := hD.box.cell 2
  have ct := (ht.keep hb2).cell s hs
  have cb := (hb.keep hb2).cell s hs
  have hmx := ht.max
  unfold maxLen at hmx
  have ba : Box ((w.alloc (.cells #[.int .i64 a.1, .int .i64 a.2] 73)).alloc (.cells #[.int .i64 0, .int .i64 0] 65)) w.heap.size [.int .i64 a.1, .int .i64 a.2] 73 := (Box.new' w w.heap.size [.int .i64 a.1, .int .i64 a.2] 73 rfl).alloc _
  have bs : Box ((w.alloc (.cells #[.int .i64 a.1, .int .i64 a.2] 73)).alloc (.cells #[.int .i64 0, .int .i64 0] 65)) (w.heap.size + 1) [.int .i64 0, .int .i64 0] 65 := Box.new' (w.alloc (.cells #[.int .i64 a.1, .int .i64 a.2] 73)) (w.heap.size + 1) [.int .i64 0, .int .i64 0] 65 (by simp)
  obtain ⟨lt, hlt⟩ : ∃ lt, ix th s = lt := ⟨_, rfl⟩
  obtain ⟨lb, hlb⟩ : ∃ lb, ix bk s = lb := ⟨_, rfl⟩
  rw [hlt] at ct
  rw [hlb] at cb
  have s0 : (0 : Int) ≤ (s : Int) := by omega
  have s1 : (s : Int) < (n : Int) := by omega
  obtain ⟨x0, x1⟩ := a
  dsimp only at *
  have HE := Lib.hid hE
  unfold besideOf at HE
  dsimp only at HE
  clear hE
  by_cases hk : x0 = 2
  · have e1 : (x0 == 2) = true := by simp [hk]
    rw [if_pos hk] at HE
    clear hk
    go_enter Tryd.func53, Tryd.ntmps53
    go_wp2
    go_quiet (fail)
    go_wp2
    go_quiet (fail)
    go_wp2_with fail
    refine (clkEnd_any ((s : Int) + 1) (x0, x1) D B pa n k _ _ l _ (hD.drewN _) hn ha).mono ?_
    rintro e wy ⟨rfl, hby⟩
    rw [HE.out]
    dsimp only
    replace bs := (bs.drewN _).keep hby
    replace ba := (ba.drewN _).keep hby
    have p0 := bs.cell 0
    have p1 := bs.cell 1
    have f0 := bs.thawed 0
    have f1 := bs.thawed 1
    have bz := (bs.set 0 (.int .i64 0)).set 1 (.int .i64 0)
    have z0 := bz.cell 0
    have z1 := bz.cell 1
    go_wp2
    refine bodyPost_ret (v := .tuple #[.agg #[.int .i64 0, .int .i64 0], .bool false]) (by simp [results, Tryd.results53, go_sem, z0, z1]) rfl ⟨rfl, (by repeat (first | fail | (with_reducible exact Below.refl _ _) | (with_reducible refine Below.al ?_ _) | (with_reducible refine Below.drN ?_ _) | (with_reducible refine Below.drew ?_) | (with_reducible refine Below.st ?_ ?_ _; rotate_left 1; (first | (dsimp only; omega) | omega | (simp; omega) | simp)) | (with_reducible refine Below.go ?_ hby) | exact Below.refl _ _))⟩
  · have e1 : (x0 == 2) = false := by simp [hk]
    rw [if_neg hk] at HE
    clear hk
    go_enter Tryd.func53, Tryd.ntmps53
    go_wp2
    go_quiet (fail)
    go_wp2_with fail
    refine (clkEnd_any ((s : Int) - 1) (x0, x1) D B pa n k _ _ l _ (hD.drewN _) hn ha).mono ?_
    rintro e wy ⟨rfl, hby⟩
    rw [HE.out]
    dsimp only
    replace bs := (bs.drewN _).keep hby
    replace ba := (ba.drewN _).keep hby
    have p0 := bs.cell 0
    have p1 := bs.cell 1
    have f0 := bs.thawed 0
    have f1 := bs.thawed 1
    have bz := (bs.set 0 (.int .i64 0)).set 1 (.int .i64 0)
    have z0 := bz.cell 0
    have z1 := bz.cell 1
    go_wp2
    refine bodyPost_ret (v := .tuple #[.agg #[.int .i64 0, .int .i64 0], .bool false]) (by simp [results, Tryd.results53, go_sem, z0, z1]) rfl ⟨rfl, (by repeat (first | fail | (with_reducible exact Below.refl _ _) | (with_reducible refine Below.al ?_ _) | (with_reducible refine Below.drN ?_ _) | (with_reducible refine Below.drew ?_) | (with_reducible refine Below.st ?_ ?_ _; rotate_left 1; (first | (dsimp only; omega) | omega | (simp; omega) | simp)) | (with_reducible refine Below.go ?_ hby) | exact Below.refl _ _))⟩
theorem DialAt.ne {w : World} {D B : Nat} {vp vt vb : Value} {l : List ((Int × ActD) × Int)} (h : DialAt w D B vp vt vb l) : D ≠ B := fun e => by
  obtain ⟨es, c, hb, _⟩ := h.map
  have h1 := h.box
  unfold Box at h1
  rw [e, hb] at h1
  cases h1
theorem clkPlace_ok (s : Nat) (a : ActD) (fr t : Int) (D B : Nat) (pa ta ba : Option Addr) (n k kt kb bt bb ot ob : Nat) (th bk : List Int) (l : List ((Int × ActD) × Int)) (w : World) (h : DialAt w D B (.slice pa n k) (.slice ta n kt) (.slice ba n kb) l) (ht : IntsAt w ta n kt bt ot th) (hb : IntsAt w ba n kb bb ob bk)
    (hn : n ≤ 6) (hs : s < n) (ha : actOk 12 a) (hE : endOf n l (besideOf s a) a = (t, true)) (hnew : ∀ p ∈ l, p.1 ≠ ((s : Int), a)) (hfr : 0 ≤ fr ∧ fr ≤ 1000000000) (htb : 0 ≤ t ∧ t ≤ 1000000000) (hlg : 1 ≤ longOf th bk s a ∧ longOf th bk s a ≤ 1000000) :
    Calls Tryd.prog 53 #[.pointer (some ⟨D, 0, none⟩), .int .i64 s, .agg #[.int .i64 a.1, .int .i64 a.2], .int .i64 fr] w fun e w' => e = .returned (.tuple #[.agg #[.int .i64 (max fr t), .int .i64 (max fr t + longOf th bk s a)], .bool true]) ∧ DialAt w' D B (.slice pa n k) (.slice ta n kt) (.slice ba n kb) (l ++ [(((s : Int), a), max fr t + longOf th bk s a)]) ∧ Far (fun b => b = B) w w' := by
  have hD := (h.alloc (.cells #[.int .i64 a.1, .int .i64 a.2] 73)).alloc (.cells #[.int .i64 0, .int .i64 0] 65)
  have hb2 : Below w.heap.size w ((w.alloc (.cells #[.int .i64 a.1, .int .i64 a.2] 73)).alloc (.cells #[.int .i64 0, .int .i64 0] 65)) := (by repeat (first | fail | (with_reducible exact Below.refl _ _) | (with_reducible refine Below.al ?_ _) | (with_reducible refine Below.drN ?_ _) | (with_reducible refine Below.drew ?_) | (with_reducible refine Below.st ?_ ?_ _; rotate_left 1; (first | (dsimp only; omega) | omega | (simp; omega) | simp)) | exact Below.refl _ _))
  obtain rfl := ht.ptr (by omega)
  obtain rfl := hb.ptr (by omega)
  have c1 := hD.box.cell 1
  have c2 := hD.box.cell 2
  have ct := (ht.keep hb2).cell s hs
  have cb := (hb.keep hb2).cell s hs
  have hmx := ht.max
  unfold maxLen at hmx
  have ba : Box ((w.alloc (.cells #[.int .i64 a.1, .int .i64 a.2] 73)).alloc (.cells #[.int .i64 0, .int .i64 0] 65)) w.heap.size [.int .i64 a.1, .int .i64 a.2] 73 := (Box.new' w w.heap.size [.int .i64 a.1, .int .i64 a.2] 73 rfl).alloc _
  have bs : Box ((w.alloc (.cells #[.int .i64 a.1, .int .i64 a.2] 73)).alloc (.cells #[.int .i64 0, .int .i64 0] 65)) (w.heap.size + 1) [.int .i64 0, .int .i64 0] 65 := Box.new' (w.alloc (.cells #[.int .i64 a.1, .int .i64 a.2] 73)) (w.heap.size + 1) [.int .i64 0, .int .i64 0] 65 (by simp)
  obtain ⟨lt, hlt⟩ : ∃ lt, ix th s = lt := ⟨_, rfl⟩
  obtain ⟨lb, hlb⟩ : ∃ lb, ix bk s = lb := ⟨_, rfl⟩
  rw [hlt] at ct
  rw [hlb] at cb
  have s0 : (0 : Int) ≤ (s : Int) := by omega
  have s1 : (s : Int) < (n : Int) := by omega
  obtain ⟨x0, x1⟩ := a
  dsimp only at *
  have HE := Lib.hid hE
  unfold besideOf at HE
  dsimp only at HE
  unfold longOf at hlg ⊢
  dsimp only at hlg ⊢
  obtain ⟨fr0, fr1⟩ := hfr
  obtain ⟨t0, t1⟩ := htb
  clear hE
  by_cases hk : x0 = 2
  · have e1 : (x0 == 2) = true := by simp [hk]
    rw [if_pos hk] at HE hlg
    rw [if_pos hk, hlb]
    rw [hlb] at hlg
    obtain ⟨l0, l1⟩ := hlg
    clear hk hlt hlb
    go_enter Tryd.func53, Tryd.ntmps53
    go_wp2
    go_quiet (fail)
    go_wp2
    go_quiet (fail)
    go_wp2_with fail
    refine (clkEnd_any ((s : Int) + 1) (x0, x1) D B pa n k _ _ l _ (hD.drewN _) hn ha).mono ?_
    rintro e wy ⟨rfl, hby⟩
    rw [HE.out]
    dsimp only
    replace bs := (bs.drewN _).keep hby
    replace ba := (ba.drewN _).keep hby
    replace hnew : ∀ p ∈ l, p.1 ≠ ((s : Int), (x0, x1)) := hnew
    have hDy := (hD.drewN _).keep hby
    clear hD ct cb c1 c2
    by_cases hm : fr < t
    · skip
      obtain ⟨kl, hkl⟩ := at3_keyOf (x := ((s : Int), (x0, x1))) (by dsimp only; omega) ha
      obtain ⟨w2, hup, hm2, ho2⟩ := hDy.map.drew.update at3_keyed Tryd.underlying91 zero_int atV_inj hkl hnew (t + lb)
      unfold atV at hup
      dsimp only at hup
      have c3 := hDy.box.cell 3
      have a0 := ba.cell 0
      have a1 := ba.cell 1
      have bs2 := Box.only bs.drew ho2 (by have := h.map.lt; omega)
      have bD2 := Box.only hDy.box.drew ho2 h.ne
      have p0 := bs2.cell 0
      have p1 := bs2.cell 1
      have f0 := bs2.thawed 0
      have f1 := bs2.thawed 1
      have bz := (bs2.set 0 (.int .i64 (t))).set 1 (.int .i64 (t + lb))
      have z0 := bz.cell 0
      have z1 := bz.cell 1
      have HMX : Hid (max fr t = t) := Lib.hid (by omega)
      have hfw : Far (fun b => b = B) w ((w2.setCell ⟨w.heap.size + 1, 0, none⟩ (.int .i64 (t))).setCell ⟨w.heap.size + 1, 1, none⟩ (.int .i64 (t + lb))) :=
        ((Far.grown ((((Far.of_below hb2).drN _).go hby).drew) ho2.1 (fun k hk _ => by cases hk; rfl)).st (fun hh => by dsimp only at hh; omega) _).st (fun hh => by dsimp only at hh; omega) _
      have hdw : DialAt ((w2.setCell ⟨w.heap.size + 1, 0, none⟩ (.int .i64 (t))).setCell ⟨w.heap.size + 1, 1, none⟩ (.int .i64 (t + lb))) D B (.slice pa n k) (.slice (some ⟨bt, ot, none⟩) n kt) (.slice (some ⟨bb, ob, none⟩) n kb) (l ++ [(((s : Int), (x0, x1)), t + lb)]) :=
        ⟨(bD2.far (by have := h.box.lt; dsimp only; omega) _).far (by have := h.box.lt; dsimp only; omega) _, (hm2.far (by have := h.map.lt; dsimp only; omega) _).far (by have := h.map.lt; dsimp only; omega) _⟩
      have HFW := Lib.hid hfw
      have HDW := Lib.hid hdw
      clear hm2 ho2 bD2 bz bs2 hfw hdw hkl
      go_wp2
      go_region
      all_goals
        go_wp2
        refine bodyPost_ret (v := .tuple #[.agg #[.int .i64 (t), .int .i64 (t + lb)], .bool true]) (by simp [results, Tryd.results53, go_sem, z0, z1]) rfl ⟨by rw [HMX.out], by rw [HMX.out]; exact HDW.out, HFW.out⟩
    · have e3 : (fr < t) = False := by simp; omega
      obtain ⟨kl, hkl⟩ := at3_keyOf (x := ((s : Int), (x0, x1))) (by dsimp only; omega) ha
      obtain ⟨w2, hup, hm2, ho2⟩ := hDy.map.drew.update at3_keyed Tryd.underlying91 zero_int atV_inj hkl hnew (fr + lb)
      unfold atV at hup
      dsimp only at hup
      have c3 := hDy.box.cell 3
      have a0 := ba.cell 0
      have a1 := ba.cell 1
      have bs2 := Box.only bs.drew ho2 (by have := h.map.lt; omega)
      have bD2 := Box.only hDy.box.drew ho2 h.ne
      have p0 := bs2.cell 0
      have p1 := bs2.cell 1
      have f0 := bs2.thawed 0
      have f1 := bs2.thawed 1
      have bz := (bs2.set 0 (.int .i64 (fr))).set 1 (.int .i64 (fr + lb))
      have z0 := bz.cell 0
      have z1 := bz.cell 1
      have HMX : Hid (max fr t = fr) := Lib.hid (by omega)
      have hfw : Far (fun b => b = B) w ((w2.setCell ⟨w.heap.size + 1, 0, none⟩ (.int .i64 (fr))).setCell ⟨w.heap.size + 1, 1, none⟩ (.int .i64 (fr + lb))) :=
        ((Far.grown ((((Far.of_below hb2).drN _).go hby).drew) ho2.1 (fun k hk _ => by cases hk; rfl)).st (fun hh => by dsimp only at hh; omega) _).st (fun hh => by dsimp only at hh; omega) _
      have hdw : DialAt ((w2.setCell ⟨w.heap.size + 1, 0, none⟩ (.int .i64 (fr))).setCell ⟨w.heap.size + 1, 1, none⟩ (.int .i64 (fr + lb))) D B (.slice pa n k) (.slice (some ⟨bt, ot, none⟩) n kt) (.slice (some ⟨bb, ob, none⟩) n kb) (l ++ [(((s : Int), (x0, x1)), fr + lb)]) :=
        ⟨(bD2.far (by have := h.box.lt; dsimp only; omega) _).far (by have := h.box.lt; dsimp only; omega) _, (hm2.far (by have := h.map.lt; dsimp only; omega) _).far (by have := h.map.lt; dsimp only; omega) _⟩
      have HFW := Lib.hid hfw
      have HDW := Lib.hid hdw
      clear hm2 ho2 bD2 bz bs2 hfw hdw hkl
      go_wp2
      go_region
      all_goals
        go_wp2
        refine bodyPost_ret (v := .tuple #[.agg #[.int .i64 (fr), .int .i64 (fr + lb)], .bool true]) (by simp [results, Tryd.results53, go_sem, z0, z1]) rfl ⟨by rw [HMX.out], by rw [HMX.out]; exact HDW.out, HFW.out⟩
  · have e1 : (x0 == 2) = false := by simp [hk]
    rw [if_neg hk] at HE hlg
    rw [if_neg hk, hlt]
    rw [hlt] at hlg
    obtain ⟨l0, l1⟩ := hlg
    clear hk hlt hlb
    go_enter Tryd.func53, Tryd.ntmps53
    go_wp2
    go_quiet (fail)
    go_wp2_with fail
    refine (clkEnd_any ((s : Int) - 1) (x0, x1) D B pa n k _ _ l _ (hD.drewN _) hn ha).mono ?_
    rintro e wy ⟨rfl, hby⟩
    rw [HE.out]
    dsimp only
    replace bs := (bs.drewN _).keep hby
    replace ba := (ba.drewN _).keep hby
    replace hnew : ∀ p ∈ l, p.1 ≠ ((s : Int), (x0, x1)) := hnew
    have hDy := (hD.drewN _).keep hby
    clear hD ct cb c1 c2
    by_cases hm : fr < t
    · skip
      obtain ⟨kl, hkl⟩ := at3_keyOf (x := ((s : Int), (x0, x1))) (by dsimp only; omega) ha
      obtain ⟨w2, hup, hm2, ho2⟩ := hDy.map.drew.update at3_keyed Tryd.underlying91 zero_int atV_inj hkl hnew (t + lt)
      unfold atV at hup
      dsimp only at hup
      have c3 := hDy.box.cell 3
      have a0 := ba.cell 0
      have a1 := ba.cell 1
      have bs2 := Box.only bs.drew ho2 (by have := h.map.lt; omega)
      have bD2 := Box.only hDy.box.drew ho2 h.ne
      have p0 := bs2.cell 0
      have p1 := bs2.cell 1
      have f0 := bs2.thawed 0
      have f1 := bs2.thawed 1
      have bz := (bs2.set 0 (.int .i64 (t))).set 1 (.int .i64 (t + lt))
      have z0 := bz.cell 0
      have z1 := bz.cell 1
      have HMX : Hid (max fr t = t) := Lib.hid (by omega)
      have hfw : Far (fun b => b = B) w ((w2.setCell ⟨w.heap.size + 1, 0, none⟩ (.int .i64 (t))).setCell ⟨w.heap.size + 1, 1, none⟩ (.int .i64 (t + lt))) :=
        ((Far.grown ((((Far.of_below hb2).drN _).go hby).drew) ho2.1 (fun k hk _ => by cases hk; rfl)).st (fun hh => by dsimp only at hh; omega) _).st (fun hh => by dsimp only at hh; omega) _
      have hdw : DialAt ((w2.setCell ⟨w.heap.size + 1, 0, none⟩ (.int .i64 (t))).setCell ⟨w.heap.size + 1, 1, none⟩ (.int .i64 (t + lt))) D B (.slice pa n k) (.slice (some ⟨bt, ot, none⟩) n kt) (.slice (some ⟨bb, ob, none⟩) n kb) (l ++ [(((s : Int), (x0, x1)), t + lt)]) :=
        ⟨(bD2.far (by have := h.box.lt; dsimp only; omega) _).far (by have := h.box.lt; dsimp only; omega) _, (hm2.far (by have := h.map.lt; dsimp only; omega) _).far (by have := h.map.lt; dsimp only; omega) _⟩
      have HFW := Lib.hid hfw
      have HDW := Lib.hid hdw
      clear hm2 ho2 bD2 bz bs2 hfw hdw hkl
      go_wp2
      go_region
      all_goals
        go_wp2
        refine bodyPost_ret (v := .tuple #[.agg #[.int .i64 (t), .int .i64 (t + lt)], .bool true]) (by simp [results, Tryd.results53, go_sem, z0, z1]) rfl ⟨by rw [HMX.out], by rw [HMX.out]; exact HDW.out, HFW.out⟩
    · have e3 : (fr < t) = False := by simp; omega
      obtain ⟨kl, hkl⟩ := at3_keyOf (x := ((s : Int), (x0, x1))) (by dsimp only; omega) ha
      obtain ⟨w2, hup, hm2, ho2⟩ := hDy.map.drew.update at3_keyed Tryd.underlying91 zero_int atV_inj hkl hnew (fr + lt)
      unfold atV at hup
      dsimp only at hup
      have c3 := hDy.box.cell 3
      have a0 := ba.cell 0
      have a1 := ba.cell 1
      have bs2 := Box.only bs.drew ho2 (by have := h.map.lt; omega)
      have bD2 := Box.only hDy.box.drew ho2 h.ne
      have p0 := bs2.cell 0
      have p1 := bs2.cell 1
      have f0 := bs2.thawed 0
      have f1 := bs2.thawed 1
      have bz := (bs2.set 0 (.int .i64 (fr))).set 1 (.int .i64 (fr + lt))
      have z0 := bz.cell 0
      have z1 := bz.cell 1
      have HMX : Hid (max fr t = fr) := Lib.hid (by omega)
      have hfw : Far (fun b => b = B) w ((w2.setCell ⟨w.heap.size + 1, 0, none⟩ (.int .i64 (fr))).setCell ⟨w.heap.size + 1, 1, none⟩ (.int .i64 (fr + lt))) :=
        ((Far.grown ((((Far.of_below hb2).drN _).go hby).drew) ho2.1 (fun k hk _ => by cases hk; rfl)).st (fun hh => by dsimp only at hh; omega) _).st (fun hh => by dsimp only at hh; omega) _
      have hdw : DialAt ((w2.setCell ⟨w.heap.size + 1, 0, none⟩ (.int .i64 (fr))).setCell ⟨w.heap.size + 1, 1, none⟩ (.int .i64 (fr + lt))) D B (.slice pa n k) (.slice (some ⟨bt, ot, none⟩) n kt) (.slice (some ⟨bb, ob, none⟩) n kb) (l ++ [(((s : Int), (x0, x1)), fr + lt)]) :=
        ⟨(bD2.far (by have := h.box.lt; dsimp only; omega) _).far (by have := h.box.lt; dsimp only; omega) _, (hm2.far (by have := h.map.lt; dsimp only; omega) _).far (by have := h.map.lt; dsimp only; omega) _⟩
      have HFW := Lib.hid hfw
      have HDW := Lib.hid hdw
      clear hm2 ho2 bD2 bz bs2 hfw hdw hkl
      go_wp2
      go_region
      all_goals
        go_wp2
        refine bodyPost_ret (v := .tuple #[.agg #[.int .i64 (fr), .int .i64 (fr + lt)], .bool true]) (by simp [results, Tryd.results53, go_sem, z0, z1]) rfl ⟨by rw [HMX.out], by rw [HMX.out]; exact HDW.out, HFW.out⟩
end Go.Proofs.YtjaepdkeldgikaaDoor
