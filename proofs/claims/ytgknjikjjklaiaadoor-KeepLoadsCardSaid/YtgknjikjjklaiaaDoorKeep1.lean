/- Contracts of package keep: the pen's number, sums. -/
import Derived.Test.YtgknjikjjklaiaaDoorByt
import Derived.Test.YtgknjikjjklaiaaDoorWire1
import Derived.Test.YtgknjikjjklaiaaDoorBaseR
set_option linter.unusedVariables false
set_option linter.unusedSimpArgs false
set_option linter.unusedSectionVars false
set_option maxRecDepth 100000
namespace Gal
open Go Go.RowKit
/-- what a pen has done: its box, its own row's block (which may be a new one) and new blocks alone -/
structure PenGo (R : Nat) (w w' : World) (v v' : Value) : Prop where
  far : Far (fun c => c = R ∨ v.ownBlock = some c) w w'
  own : ∀ g, v'.ownBlock = some g → v.ownBlock = some g ∨ w.heap.size ≤ g
theorem PenGo.refl (R : Nat) (w : World) (v : Value) : PenGo R w w v v := ⟨Far.refl _ _, fun g h => Or.inl h⟩
theorem PenGo.trans {R : Nat} {w w1 w2 : World} {v v1 v2 : Value} (h : PenGo R w w1 v v1) (k : PenGo R w1 w2 v1 v2) : PenGo R w w2 v v2 := by
  refine ⟨⟨k.far.os.trans h.far.os, k.far.tape.trans h.far.tape, k.far.output.trans h.far.output, Nat.le_trans h.far.size k.far.size, fun c hc hs => ?_⟩, fun g hg => ?_⟩
  · refine (k.far.block c (Nat.lt_of_lt_of_le hc h.far.size) ?_).trans (h.far.block c hc hs)
    rintro (h1 | h1)
    · exact hs (Or.inl h1)
    · rcases h.own c h1 with h2 | h2
      · exact hs (Or.inr h2)
      · omega
  · rcases k.own g hg with h1 | h1
    · exact h.own g h1
    · exact Or.inr (Nat.le_trans h.far.size h1)
/-- ahead of the pen, blocks were made -/
theorem PenGo.pre {R : Nat} {w w1 w2 : World} {v v2 : Value} (hb : Below w.heap.size w w1) (k : PenGo R w1 w2 v v2) : PenGo R w w2 v v2 :=
  PenGo.trans ⟨Far.of_below hb, fun g h => Or.inl h⟩ k
theorem PenGo.post {R : Nat} {w w1 w2 : World} {v v1 : Value} (k : PenGo R w w1 v v1) (hb : Below w1.heap.size w1 w2) : PenGo R w w2 v v1 :=
  PenGo.trans k ⟨Far.of_below hb, fun g h => Or.inl h⟩
theorem PenGo.push {R : Nat} {w wr w' : World} {v u : Value} {o : Obj} {g cap n : Nat} (h : PenGo R w wr v u) (hg : (wr.alloc o).grownBy w' u.ownBlock) (hl : u.ownBlock = some g ∨ wr.heap.size ≤ g) (x : Value) : PenGo R w (w'.setCell ⟨R, 0, none⟩ x) v (.slice (some ⟨g, 0, none⟩) n cap) := by
  refine ⟨((h.far.al o).grown hg fun k hk hlt => ?_).st (fun _ => Or.inl rfl) x, fun q hq => ?_⟩
  · rcases h.own k hk with h1 | h1
    · exact Or.inr h1
    · omega
  · simp only [Value.ownBlock, Option.some.injEq] at hq
    subst hq
    rcases hl with h1 | h1
    · exact h.own g h1
    · exact Or.inr (Nat.le_trans h.far.size h1)
theorem pen_push {α : Type} {f : Form α} {E T : TypeId} {R base : Nat} {wr w' : World} {u : Value} {o : Obj} {g cap n : Nat} {ys : List α} (hB : Box wr R [u] T) (hne : u.ownBlock ≠ some R) (hg : (wr.alloc o).grownBy w' u.ownBlock) (hl : u.ownBlock = some g ∨ wr.heap.size ≤ g)
    (hown : OwnRow f E w' base noK (.slice (some ⟨g, 0, none⟩) n cap) ys) :
    Box (w'.setCell ⟨R, 0, none⟩ (.slice (some ⟨g, 0, none⟩) n cap)) R [.slice (some ⟨g, 0, none⟩) n cap] T ∧ OwnRow f E (w'.setCell ⟨R, 0, none⟩ (.slice (some ⟨g, 0, none⟩) n cap)) base noK (.slice (some ⟨g, 0, none⟩) n cap) ys ∧ Value.ownBlock (.slice (some ⟨g, 0, none⟩) n cap) ≠ some R := by
  have hgR : g ≠ R := by
    rintro rfl
    rcases hl with h1 | h1
    · exact hne h1
    · have := hB.lt; omega
  have h1 : Box w' R [u] T := (hB.alloc o).grown hg (fun e => hne e.symm)
  have hn : Value.ownBlock (.slice (some ⟨g, 0, none⟩) n cap) ≠ some R := by simpa [Value.ownBlock] using hgR
  exact ⟨h1.set 0 _, hown.set hn (fun hh => hh.elim) _, hn⟩
end Gal
namespace Go.Proofs.YtgknjikjjklaiaaDoor
open Go.RowKit Gal
set_option maxHeartbeats 4000000
/-- a pen: what it has written -/
def PenAt (w : World) (R base : Nat) (v : Value) (xs : List Nat) : Prop := Box w R [v] 97 ∧ OwnRow Form.u8 5 w base noK v xs ∧ v.ownBlock ≠ some R
theorem penNumber_any (xs : List Nat) (x : Int) (v : Value) (R base : Nat) (w : World) (hx : 0 ≤ x ∧ x ≤ 9223372036854775807) (hp : PenAt w R base v xs) (hlen : xs.length ≤ 1000000) (hbase : base ≤ w.heap.size) :
    Calls Tryd.prog 46 #[.pointer (some ⟨R, 0, none⟩), .int .i64 x] w fun e w' => ∃ v', e = .returned (.tuple #[]) ∧ PenAt w' R base v' (xs ++ seven x.toNat) ∧ PenGo R w w' v v' := by
  obtain ⟨i0, hi, hz0, hz1, hz2⟩ := info_parts info_byte
  obtain ⟨x0, x1⟩ := hx
  obtain ⟨Z, hZ⟩ : ∃ Z, xs ++ seven x.toNat = Z := ⟨_, rfl⟩
  have hZl : Z.length ≤ 1000009 := by
    rw [← hZ, List.length_append]
    have := seven_9 (x := x.toNat) (by omega)
    omega
  have HZ := Lib.hid hZ
  rw [hZ]
  have HZL := Lib.hid hZl
  clear hZ hZl
  go_enter Tryd.func46, Tryd.ntmps46
  go_wp2
  go_loopw [1] (fun y wr => ∃ (u : Value) (z : Int) (ys : List Nat), y = .int .i64 z ∧ 0 ≤ z ∧ z ≤ x ∧ Hid (ys ++ seven z.toNat = Z) ∧ PenAt wr R base u ys ∧ PenGo R w wr v u) (fun y _ => (intOf y).toNat)
  case atStart => exact ⟨v, x, xs, rfl, x0, Int.le_refl _, HZ, hp, PenGo.refl _ _ _⟩
  case round =>
    clear hp
    obtain ⟨u, z, ys, rfl, z0, z1, hys, ⟨hB, hown, hne⟩, hgo⟩ := hrel
    have hsz : base ≤ wr.heap.size := Nat.le_trans hbase hgo.far.size
    have c0 := hB.cell 0
    have hyl : ys.length ≤ 1000009 := by
      have h1 := HZL.out
      rw [← hys.out, List.length_append] at h1
      omega
    by_cases hlt : 128 ≤ z
    · have e1 : (z ≥ 128) = True := by simp; omega
      have hor := or_128 hlt
      have hyr : Form.u8.reads (wr.alloc (.cells #[.int .u8 ((128 + z.toNat % 128 : Nat) : Int)] 5)) (fun b => noK b ∧ u.ownBlock ≠ some b) [.int .u8 ((128 + z.toNat % 128 : Nat) : Int)] (128 + z.toNat % 128) := ⟨rfl, by omega⟩
      obtain ⟨Y, hY⟩ : ∃ Y : Nat, 128 + z.toNat % 128 = Y := ⟨_, rfl⟩
      rw [hY] at hor hyr
      have HNX : Hid ((ys ++ [Y]) ++ seven (z / 128).toNat = Z) := Lib.hid (by
        rw [← hys.out, seven_high (x := z.toNat) (by omega), hY, List.append_assoc]
        have : (z / 128).toNat = z.toNat / 128 := by omega
        rw [this]
        rfl)
      have HY : Hid (0 ≤ z / 128 ∧ z / 128 ≤ x ∧ (z / 128).toNat < z.toNat) := Lib.hid (by omega)
      clear hY
      go_wp2_with (at_builtin; go_must (refine wpList_push rfl (.tmp 12) (.tmp 16) 27 rfl Form.u8 base noK 5 i0 (.int .u8 0) 1 Tryd.underlying27 hi hz0 hz1 hz2 rfl (by decide) u ys rfl (hown.keep ((Below.refl _ _).alloc (Nat.le_refl _) _)) wr.heap.size 1 [.int .u8 (Y : Int)] 5 Y rfl (Box.new _ _ _) hyr (by omega) (by unfold maxLen; omega) (by simp; omega) _ rfl ?_))
      intro g cap w' hown' hgrow hlies hgs
      replace hlies : u.ownBlock = some g ∨ wr.heap.size ≤ g := hlies.imp_right (fun h => by omega)
      have HN := Lib.hid (pen_push hB hne hgrow hlies hown')
      have HG := Lib.hid (hgo.push (n := ys.length + 1) (cap := cap) hgrow hlies (.slice (some ⟨g, 0, none⟩) (ys.length + 1) cap))
      have hB' : Box w' R [u] 97 := (hB.alloc _).grown hgrow (fun e => hne e.symm)
      have f0 := hB'.thawed 0
      have d0 := hB'.cell 0
      clear hown' hgrow hlies hgs hyr hor hgo hown hB hB' c0
      go_wp2
      go_roundw
      case rel => exact ⟨_, z / 128, ys ++ [Y], rfl, HY.out.1, HY.out.2.1, HNX, HN.out, HG.out⟩
      case measure => simp only [intOf]; exact HY.out.2.2
    · have e1 : (z ≥ 128) = False := by simp; omega
      have hu8 : z % 256 = z := by omega
      have hyr : Form.u8.reads (wr.alloc (.cells #[.int .u8 z] 5)) (fun b => noK b ∧ u.ownBlock ≠ some b) [.int .u8 z] z.toNat := ⟨by rw [Int.toNat_of_nonneg z0], by omega⟩
      have HR2 : Hid (ys ++ [z.toNat] = Z) := Lib.hid (by rw [← hys.out, seven_low (by omega)])
      go_wp2_with (at_builtin; go_must (refine wpList_push rfl (.tmp 24) (.tmp 27) 27 rfl Form.u8 base noK 5 i0 (.int .u8 0) 1 Tryd.underlying27 hi hz0 hz1 hz2 rfl (by decide) u ys rfl (hown.keep ((Below.refl _ _).alloc (Nat.le_refl _) _)) wr.heap.size 1 [.int .u8 z] 5 z.toNat rfl (Box.new _ _ _) hyr (by omega) (by unfold maxLen; omega) (by simp; omega) _ rfl ?_))
      intro g cap w' hown' hgrow hlies hgs
      replace hlies : u.ownBlock = some g ∨ wr.heap.size ≤ g := hlies.imp_right (fun h => by omega)
      have HN := Lib.hid (pen_push hB hne hgrow hlies hown')
      have HG := Lib.hid (hgo.push (n := ys.length + 1) (cap := cap) hgrow hlies (.slice (some ⟨g, 0, none⟩) (ys.length + 1) cap))
      have hB' : Box w' R [u] 97 := (hB.alloc _).grown hgrow (fun e => hne e.symm)
      have f0 := hB'.thawed 0
      have d0 := hB'.cell 0
      clear hown' hgrow hlies hgs hyr hu8 hgo hown hB hB' c0
      go_wp2
      go_end0
      exact ⟨_, rfl, by rw [← HR2.out]; exact HN.out, HG.out⟩
theorem keepSums_any (xs : List Nat) (a : Option Addr) (n k b o : Nat) (F : Nat → Prop) (w : World) (h : RowAt Form.u8 w F a n k b o xs) :
    Calls Tryd.prog 48 #[.slice a n k] w fun e w' => e = .returned (.tuple #[.int .u8 ((prgSums xs).1 : Int), .int .u8 ((prgSums xs).2 : Int)]) ∧ Below w.heap.size w w' := by
  have HL := Lib.hid h.len
  have hmx := h.max
  unfold maxLen at hmx
  obtain ⟨⟨r1, r2⟩, hR⟩ : ∃ R, prgSums xs = R := ⟨_, rfl⟩
  rw [hR]
  have HR : Hid ((xs.drop 0).foldl sumStep (0, 0) = (r1, r2)) := Lib.hid hR
  clear hR
  go_enter Tryd.func48, Tryd.ntmps48
  go_wp2
  go_loopw [4, 5, 10] (fun x y i wr => ∃ (t s1 s2 : Nat), t ≤ n ∧ i = .int .i64 t ∧ x = .int .i64 s1 ∧ y = .int .i64 s2 ∧ s1 < 255 ∧ s2 < 255 ∧ Hid ((xs.drop t).foldl sumStep (s1, s2) = (r1, r2)) ∧ Below w.heap.size w wr) (fun _ _ i _ => n - (intOf i).toNat)
  case atStart => exact ⟨0, 0, 0, Nat.zero_le _, rfl, rfl, rfl, by decide, by decide, HR, Below.refl _ _⟩
  case round =>
    obtain ⟨t, s1, s2, ht, rfl, rfl, rfl, h1, h2, hgo, hbr⟩ := hrel
    by_cases hlt : t < n
    · obtain rfl := h.ptr (by omega)
      obtain ⟨c0, hc⟩ := u8_cell (h.keep hbr) hlt
      obtain ⟨v, hv⟩ : ∃ v, bt xs t = v := ⟨_, rfl⟩
      rw [hv] at c0 hc
      obtain ⟨u1, hu1⟩ : ∃ u1, (s1 + v) % 255 = u1 := ⟨_, rfl⟩
      obtain ⟨u2, hu2⟩ : ∃ u2, (s2 + u1) % 255 = u2 := ⟨_, rfl⟩
      have HGO : Hid ((xs.drop (t + 1)).foldl sumStep (u1, u2) = (r1, r2)) := Lib.hid (by
        rw [← hgo.out, drop_bt (l := xs) (t := t) (by rw [HL.out]; exact hlt), List.foldl_cons, hv]
        unfold sumStep
        dsimp only
        rw [hu1, hu2])
      have hb1 : u1 < 255 := by omega
      have hb2 : u2 < 255 := by omega
      have e1 : ((s1 : Int) + (v : Int)) % 255 = (u1 : Int) := by omega
      have e2 : ((s2 : Int) + (u1 : Int)) % 255 = (u2 : Int) := by omega
      clear hv hu1 hu2
      go_wp2
      go_roundw
      case rel => exact ⟨t + 1, u1, u2, by omega, by go_num, by rw [e1], by rw [e2], hb1, hb2, HGO, (by repeat (first | fail | (with_reducible exact Below.refl _ _) | (with_reducible exact hbr) | (with_reducible refine Below.al ?_ _) | (with_reducible refine Below.drN ?_ _) | (with_reducible refine Below.drew ?_) | (with_reducible refine Below.st ?_ ?_ _; rotate_left 1; (first | (dsimp only; omega) | omega | (simp; omega) | simp)) | exact Below.refl _ _ | exact hbr))⟩
      case measure => simp [intOf]; omega
    · obtain rfl : n = t := by omega
      have hV : (s1, s2) = (r1, r2) := by rw [← hgo.out, List.drop_of_length_le (by rw [HL.out]; exact Nat.le_refl _)]; rfl
      simp only [Prod.mk.injEq] at hV
      obtain ⟨rfl, rfl⟩ := hV
      have e1 : ((s1 : Int)) % 256 = s1 := by omega
      have e2 : ((s2 : Int)) % 256 = s2 := by omega
      go_wp2
      refine bodyPost_ret (v := .tuple #[.int .u8 s1, .int .u8 s2]) (by simp [results, Tryd.results48, go_sem]) rfl ⟨rfl, (by repeat (first | fail | (with_reducible exact Below.refl _ _) | (with_reducible exact hbr) | (with_reducible refine Below.al ?_ _) | (with_reducible refine Below.drN ?_ _) | (with_reducible refine Below.drew ?_) | (with_reducible refine Below.st ?_ ?_ _; rotate_left 1; (first | (dsimp only; omega) | omega | (simp; omega) | simp)) | exact Below.refl _ _ | exact hbr))⟩
end Go.Proofs.YtgknjikjjklaiaaDoor
