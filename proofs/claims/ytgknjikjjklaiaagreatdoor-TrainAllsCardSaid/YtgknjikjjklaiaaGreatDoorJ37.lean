/- Texts joined: Train6. -/
import Derived.Test.YtgknjikjjklaiaaGreatDoorJ36
import Derived.Test.YtgknjikjjklaiaaGreatDoorJ09
import Derived.Test.YtgknjikjjklaiaaGreatDoorJ19
section
set_option linter.unusedVariables false
set_option linter.unusedSimpArgs false
set_option linter.unusedSectionVars false
set_option maxRecDepth 100000
namespace Go.Proofs.YtgknjikjjklaiaaGreatDoor
open Go.RowKit Gal
set_option maxHeartbeats 8000000
def AllEnd (w : World) (s : Sta) (l : List Bat) (p ln kp : Int) (e : Ending) (w' : World) : Prop :=
 ∃ v o, e = .returned (.tuple #[v, o, errV (allFault s l p ln kp)]) ∧ Below w.heap.size w w' ∧
  (allFault s l p ln kp = 0 → StaV w' v (allSt s l p ln kp l.length) ∧ ∃ a k b, o = .slice a l.length k ∧ IntsAt w' a l.length k b 0 (allOffs s l p ln kp l.length)) ∧
  (allFault s l p ln kp ≠ 0 → v = .agg #[.slice none 0 0, .slice none 0 0, .int .i64 0] ∧ o = .slice none 0 0)
section
variable (s : Sta) (l : List Bat) (p ln kp : Int) (F G H : Nat → Prop) (a0 a1 aL : Option Addr) (n n1 k0 k1 b0 b1 o0 o1 L kL bL oL : Nat) (w : World) (h0 : RowAt Form.lay w F a0 n k0 b0 o0 s.N) (h1 : RowAt Form.grd w G a1 n1 k1 b1 o1 s.V) (hl : RowAt Form.bat w H aL L kL bL oL l)
include h0 h1 hl
theorem trainAll_full (hn : 20 < L) :
  Calls Tryz.prog 21 #[.agg #[.slice a0 n k0, .slice a1 n1 k1, .int .i64 s.steps], .slice aL L kL, .int .i64 p, .agg #[.int .i64 ln, .int .i64 kp]] w (AllEnd w s l p ln kp)
 := by
 have HL := Lib.hid hl.len
 have HF : Hid (allFault s l p ln kp = 3) := Lib.hid (by unfold allFault; rw [if_pos (by rw [HL.out]; exact hn)])
 have e1 : ((L : Int) > 20) = True := eq_true (by omega)
 clear hn
 go_enter Tryz.func21, Tryz.ntmps21
 go_wp2
 refine bodyPost_ret (v := .tuple #[.agg #[.slice none 0 0, .slice none 0 0, .int .i64 0], .slice none 0 0, .iface 31 (.int .i64 3)]) (by simp [results, Tryz.results21, go_sem]) rfl ⟨_, _, by rw [HF.out]; rfl, Below.x0, fun h => absurd (HF.out.symm.trans h) (by decide), fun _ => ⟨rfl, rfl⟩⟩
def noI (b : Nat) : Prop := False
def notB (p b : Nat) : Prop := b < p ∨ p + 3 ≤ b
theorem trainAll_many (hp : 0 < L) (hn : L ≤ 20) :
  Calls Tryz.prog 21 #[.agg #[.slice a0 n k0, .slice a1 n1 k1, .int .i64 s.steps], .slice aL L kL, .int .i64 p, .agg #[.int .i64 ln, .int .i64 kp]] w (AllEnd w s l p ln kp)
 := by
 have HL := Lib.hid hl.len
 have HAF : Hid (allFault s l p ln kp = allFt s l p ln kp L) := Lib.hid (by unfold allFault; rw [if_neg (by rw [HL.out]; omega), if_neg (by rw [HL.out]; omega), HL.out])
 obtain ⟨i0, hi, hz0, hz1, hz2⟩ := info_parts info_int'
 have e1 : ((L : Int) > 20) = False := eq_false (by omega)
 have e2 : ((L : Int) == 0) = false := by rw [beq_eq_false_iff_ne]; omega
 obtain rfl := hl.ptr hp
 have hlw : RowAt Form.bat w (fun b => b < w.heap.size) (some ⟨bL, oL, none⟩) L kL bL oL l := hl.wide (fun b _ h => h)
 clear hl
 go_enter Tryz.func21, Tryz.ntmps21
 obtain ⟨w3, hw3⟩ : ∃ w3, ((w.alloc (.cells #[.slice a0 n k0, .slice a1 n1 k1, .int .i64 s.steps] 53)).alloc (.cells #[.int .i64 ln, .int .i64 kp] 51)).alloc (.cells #[.slice none 0 0, .slice none 0 0, .int .i64 0] 53) = w3 := ⟨_, rfl⟩
 have hb3 : Below w.heap.size w w3 := by rw [← hw3]; exact Below.x0
 have B4 : Box w3 w.heap.size [.slice a0 n k0, .slice a1 n1 k1, .int .i64 s.steps] 53 := by rw [← hw3]; exact Box.x0
 have B7 : Box w3 (w.heap.size + 1) [.int .i64 ln, .int .i64 kp] 51 := by rw [← hw3]; exact Box.x0
 have B8 : Box w3 (w.heap.size + 1 + 1) [.slice none 0 0, .slice none 0 0, .int .i64 0] 53 := by rw [← hw3]; exact Box.x0
 have HW3 := Lib.hid hw3
 clear hw3
 go_wp2_with fail
 rw [HW3.out]
 go_loopw [15, 64] (fun u j wr => ∃ (t : Nat) (c0 c1 : Option Addr) (m0 m1 l0 l1 d0 d1 p0 p1 : Nat), t ≤ L ∧ allFt s l p ln kp t = 0 ∧ j = .int .i64 t ∧ Below w.heap.size w wr ∧
   Box wr w.heap.size [.slice c0 m0 l0, .slice c1 m1 l1, .int .i64 (allSt s l p ln kp t).steps] 53 ∧ Box wr (w.heap.size + 1) [.int .i64 ln, .int .i64 kp] 51 ∧ Box wr (w.heap.size + 1 + 1) [.slice none 0 0, .slice none 0 0, .int .i64 0] 53 ∧
   RowAt Form.lay wr (notB w.heap.size) c0 m0 l0 d0 p0 (allSt s l p ln kp t).N ∧ RowAt Form.grd wr (notB w.heap.size) c1 m1 l1 d1 p1 (allSt s l p ln kp t).V ∧ OwnRow Form.int 3 wr (w.heap.size + 3) noI u (allOffs s l p ln kp t)) (fun _ j _ => L - (intOf j).toNat)
 case atStart => exact ⟨0, a0, a1, n, n1, k0, k1, b0, b1, o0, o1, Nat.zero_le _, rfl, rfl, hb3, B4, B7, B8, (h0.wide (fun b _ h => Or.inl h)).keep hb3, (h1.wide (fun b _ h => Or.inl h)).keep hb3, OwnRow.nil _ _ _ _ _⟩
 case round =>
  obtain ⟨t, c0, c1, m0, m1, l0, l1, d0, d1, p0, p1, ht, hft, rfl, hbr, B4, B7, B8, q0, q1, hown⟩ := hrel
  obtain ⟨S, hS⟩ : ∃ S, allSt s l p ln kp t = S := ⟨_, rfl⟩
  rw [hS] at B4 q0 q1
  have HS := Lib.hid hS
  have HFT := Lib.hid hft
  have hwr := hbr.size
  clear hS hft h0 h1
  have z4 := B4.lt
  have z7 := B7.lt
  have z8 := B8.lt
  have c40 := B4.cell 0
  have c41 := B4.cell 1
  have c42 := B4.cell 2
  have c70 := B7.cell 0
  have c71 := B7.cell 1
  by_cases hlt : t < L
  ·have hltI : (t : Int) < (L : Int) := by omega
   obtain ⟨a4, n4, k4, b4, o4, a5, n5, k5, b5, o5, x0, x1, x2, x3, x4, x5, y1, y2⟩ := bat_cells (i := t) (d := bx l t) (hlw.keep hbr) (by
    unfold bx
    rw [List.getElem?_eq_getElem (by rw [HL.out]; exact hlt)]
    rfl)
   obtain ⟨d, hd⟩ : ∃ d, bx l t = d := ⟨_, rfl⟩
   rw [hd] at x0 x1 x3 x4 y1 y2
   have HD := Lib.hid hd
   clear hd hlw
   have c80 := B8.cell 0
   have c81 := B8.cell 1
   have c82 := B8.cell 2
   go_wp2_with fail
   refine (trainOne_any S d p ln kp _ _ _ _ _ _ _ _ _ _ _ _ _ _ (q0.alloc _) (q1.alloc _) ⟨a4, n4, k4, b4, o4, a5, n5, k5, b5, o5, rfl, y1.alloc _, y2.alloc _⟩).mono ?_
   rintro e w11 ⟨vO, off, rfl, hb11, hO, hO'⟩
   have hzz := hb11.size
   simp at hzz
   have HOW := Lib.hid hown.base_le
   have hkw11 : Below wr.heap.size wr w11 := (Below.x1 hb11)
   replace B4 := B4.keep hkw11
   replace B4c := B4.cell
   replace B4f := B4.thawed
   replace B4z := B4.lt
   replace B4k := lt_add B4z
   replace B7 := B7.keep hkw11
   replace B7c := B7.cell
   replace B7f := B7.thawed
   replace B7z := B7.lt
   replace B7k := lt_add B7z
   replace B8 := B8.keep hkw11
   replace B8c := B8.cell
   replace B8f := B8.thawed
   replace B8z := B8.lt
   replace B8k := lt_add B8z
   replace hown := hown.keep hkw11
   have hsw11 := hkw11.size
   clear q0 q1 y1 y2 x0 x1 x2 x3 x4 x5
   have hbw : Below w.heap.size w w11 := (Below.y1 hb11 hbr)
   by_cases hg : oneFault S d p ln kp = 0
   ·obtain ⟨rfl, a', n', k', b', a'', n'', k'', b'', rfl, r0, r1⟩ := hO hg
    rw [errV_nil hg]
    have HFN : Hid (allFt s l p ln kp (t + 1) = 0) := Lib.hid (by rw [allFt_next HFT.out, HS.out, HD.out]; exact hg)
    have HSN : Hid (allSt s l p ln kp (t + 1) = oneOf S d p ln kp) := Lib.hid (by rw [← HS.out, ← HD.out]; rfl)
    have HON : Hid (allOffs s l p ln kp (t + 1) = allOffs s l p ln kp t ++ [oneOff S d p]) := Lib.hid (by rw [allOffs_succ, HS.out, HD.out])
    obtain ⟨S', hS'⟩ : ∃ S', oneOf S d p ln kp = S' := ⟨_, rfl⟩
    obtain ⟨O, hO'⟩ : ∃ O, oneOff S d p = O := ⟨_, rfl⟩
    rw [hS'] at r0 r1 HSN ⊢
    rw [hO'] at HON ⊢
    clear hO hg hS' hO'
    have f40 := B4.thawed 0
    have f41 := B4.thawed 1
    have f42 := B4.thawed 2
    obtain ⟨wq, hq, Q4, hfq, hzq0⟩ : ∃ wq, (((w11.setCell ⟨w.heap.size, 0, none⟩ (.slice a' n' k')).setCell ⟨w.heap.size, 1, none⟩ (.slice a'' n'' k'')).setCell ⟨w.heap.size, 2, none⟩ (.int .i64 S'.steps)) = wq ∧ Box wq w.heap.size [.slice a' n' k', .slice a'' n'' k'', .int .i64 S'.steps] 53 ∧ Far (fun c => c = w.heap.size) w11 wq ∧ wq.heap.size = w11.heap.size :=
     ⟨_, rfl, ((B4.set 0 _).set 1 _).set 2 _, (((Far.refl (fun c => c = w.heap.size) w11).st (fun _ => rfl) _).st (fun _ => rfl) _).st (fun _ => rfl) _, by simp [World.setCell]⟩
    have C40 := Lib.hid (B4.cell 0)
    have C41 := Lib.hid (B4.cell 1)
    have C42 := Lib.hid (B4.cell 2)
    have Z4 := Lib.hid B4.lt
    have HZQ := Lib.hid hzq0
    clear hzq0
    have hbo := hown.base_le
    have hownq : OwnRow Form.int 3 wq (w.heap.size + 3) noI u15 (allOffs s l p ln kp t) := hown.farS hfq (fun b hb => by have := (hbo b hb).1; omega) (fun b hb => hb.elim)
    have HBO : Hid (∀ b, u15.ownBlock = some b → w.heap.size + 3 ≤ b ∧ b < wr.heap.size) := Lib.hid HOW.out
    have B7q := B7.farS hfq (by omega)
    have B8q := B8.farS hfq (by omega)
    have r0q := r0.farS hfq (fun c hc _ hh => by have h3 := hc; unfold newB at h3; simp at h3; omega)
    have r1q := r1.farS hfq (fun c hc _ hh => by have h3 := hc; unfold newB at h3; simp at h3; omega)
    have hbq : Below w.heap.size w wq := by rw [← hq]; exact ((hbw.setCell (by dsimp only; omega) _).setCell (by dsimp only; omega) _).setCell (by dsimp only; omega) _
    have q40 := Q4.cell 0
    have q41 := Q4.cell 1
    have q42 := Q4.cell 2
    have zq4 := Q4.lt
    have HB := Lib.hid hbq
    have hsz : w11.heap.size ≤ wq.heap.size := by have := HZQ.out; omega
    clear hbo hown B4 B4c B4z B7 B7c B7f B7z B7k B8 B8c B8f B8z B8k hbq c70 c71 c80 c81 c82 r0 r1
    replace c40 := C40.out
    replace c41 := C41.out
    replace c42 := C42.out
    have z4' := Z4.out
    have hzz3 : w.heap.size + 3 ≤ wq.heap.size := by omega
    go_wp2_with (at_builtin; go_must (refine wpList_push rfl (.tmp 82) (.tmp 84) 23 rfl Form.int (w.heap.size + 3) noI 3 i0 (.int .i64 0) 8 Tryz.underlying23 hi hz0 hz1 hz2 rfl (by decide) u15 (allOffs s l p ln kp t) rfl (hownq.keep Below.x0) (wq.heap.size + 1) 1 [.int .i64 O] 3 O rfl (Box.new' _ _ _ _ (by simp)) rfl (by rw [allOffs_length]; omega) (by rw [allOffs_length]; unfold maxLen; omega) (by simp; omega) _ rfl ?_))
    intro g cap wG hownG hgrow hlies hgs
    rw [← HON.out, allOffs_length] at hownG
    rw [allOffs_length]
    obtain ⟨W0, hW0, hqW⟩ : ∃ W0, (wq.alloc (.cells #[.slice a' n' k', .slice a'' n'' k'', .int .i64 S'.steps] 53)).alloc (.cells #[.int .i64 O] 3) = W0 ∧ Below wq.heap.size wq W0 := ⟨_, rfl, Below.x0⟩
    rw [hW0] at hgrow
    have hno : ∀ b, (b < w.heap.size + 3 ∨ wr.heap.size ≤ b) → some b ≠ u15.ownBlock := fun b hb e => by have := HBO.out b e.symm; omega
    have hbG : Below w.heap.size w wG := Far.toBelow (HB.out.trans (hqW.mono HB.out.size)) ((Far.refl (fun k => w.heap.size ≤ k) W0).grown hgrow (fun k hk _ => by have := HBO.out k hk; show w.heap.size ≤ k; omega)) (by have := hqW.size; omega) (fun k hk => hk)
    have G4 := (Q4.keep hqW).grown hgrow (hno _ (by omega))
    have G7 := (B7q.keep hqW).grown hgrow (hno _ (by omega))
    have G8 := (B8q.keep hqW).grown hgrow (hno _ (by omega))
    have g0 := ((r0q.keep hqW).kept (w' := wG) (fun b hF hl => hgrow.block b hl (hno b (by have h3 := hF; unfold newB at h3; simp at h3; omega)))).wide (G := notB w.heap.size) (fun b hF _ => by have h3 := hF; unfold newB at h3; simp at h3; exact Or.inr (by omega))
    have g1 := ((r1q.keep hqW).kept (w' := wG) (fun b hF hl => hgrow.block b hl (hno b (by have h3 := hF; unfold newB at h3; simp at h3; omega)))).wide (G := notB w.heap.size) (fun b hF _ => by have h3 := hF; unfold newB at h3; simp at h3; exact Or.inr (by omega))
    rw [← HSN.out] at G4 g0 g1
    have HG := Lib.hid (And.intro hbG (And.intro G4 (And.intro G7 (And.intro G8 (And.intro g0 (And.intro g1 hownG))))))
    have HO := Lib.hid hownG
    clear hno hbG G4 G7 G8 g0 g1 hownG hgrow hqW hW0 r0q r1q Q4 B7q B8q hownq q40 q41 q42 c40 c41 c42 hq hfq f40 f41 f42
    go_wp2
    go_roundw
    case rel => exact ⟨t + 1, a', a'', n', n'', k', k'', b', b'', 0, 0, by omega, HFN.out, by go_num, HG.out.1, HG.out.2.1, HG.out.2.2.1, HG.out.2.2.2.1, HG.out.2.2.2.2.1, HG.out.2.2.2.2.2.1, HG.out.2.2.2.2.2.2⟩
    case measure => simp [intOf]; omega
   ·obtain ⟨rfl, rfl⟩ := hO' hg
    have HFE : Hid (allFault s l p ln kp = oneFault S d p ln kp) := Lib.hid (by rw [HAF.out, allFt_stop hlt HFT.out (by rw [HS.out, HD.out]; exact hg), HS.out, HD.out])
    rw [errV_err hg]
    have HG := Lib.hid hg
    have bz := (((B8.set 0 (.slice none 0 0)).set 1 (.slice none 0 0)).set 2 (.int .i64 0))
    have z0 := bz.cell 0
    have z1 := bz.cell 1
    have z2 := bz.cell 2
    have hbe : Below w.heap.size w (((w11.setCell ⟨w.heap.size + 1 + 1, 0, none⟩ (.slice none 0 0)).setCell ⟨w.heap.size + 1 + 1, 1, none⟩ (.slice none 0 0)).setCell ⟨w.heap.size + 1 + 1, 2, none⟩ (.int .i64 0)) := ((hbw.setCell (by dsimp only; omega) _).setCell (by dsimp only; omega) _).setCell (by dsimp only; omega) _
    have HBE := Lib.hid hbe
    have HZ8 := Lib.hid B8.lt
    have HZ := Lib.hid (And.intro z0 (And.intro z1 z2))
    clear hO hO' hg bz hbe hb11 hbw z0 z1 z2 hown B4 B7
    go_wp2
    have z0 := HZ.out.1
    have z1 := HZ.out.2.1
    have z2 := HZ.out.2.2
    have hz8 := HZ8.out
    refine bodyPost_ret (v := .tuple #[.agg #[.slice none 0 0, .slice none 0 0, .int .i64 0], .slice none 0 0, .iface 31 (.int .i64 (oneFault S d p ln kp))]) (by simp [results, Tryz.results21, go_sem, z0, z1, z2, hz8]) rfl ⟨_, _, by rw [HFE.out, errV_err HG.out], HBE.out.al _, fun h => absurd (HFE.out.symm.trans h) HG.out, fun _ => ⟨rfl, rfl⟩⟩
  ·obtain rfl : t = L := by omega
   have HFZ : Hid (allFault s l p ln kp = 0) := Lib.hid (by rw [HAF.out]; exact HFT.out)
   obtain ⟨av, cv, bv, hv, hbv, hrow⟩ := hown.row (G := fun b => w.heap.size + 3 ≤ b) (fun _ h _ => h.elim) (fun _ h => h)
   rw [allOffs_length] at hv hbv hrow
   subst hv
   have f80 := B8.thawed 0
   have f81 := B8.thawed 1
   have f82 := B8.thawed 2
   have c80 := B8.cell 0
   have c81 := B8.cell 1
   have c82 := B8.cell 2
   have hf9 : Far (fun c => c = w.heap.size + 1 + 1) wr (((wr.setCell ⟨w.heap.size + 1 + 1, 0, none⟩ (.slice c0 m0 l0)).setCell ⟨w.heap.size + 1 + 1, 1, none⟩ (.slice c1 m1 l1)).setCell ⟨w.heap.size + 1 + 1, 2, none⟩ (.int .i64 S.steps)) := (((Far.refl (fun c => c = w.heap.size + 1 + 1) wr).st (fun _ => rfl) _).st (fun _ => rfl) _).st (fun _ => rfl) _
   have bz := ((B8.set 0 (.slice c0 m0 l0)).set 1 (.slice c1 m1 l1)).set 2 (.int .i64 S.steps)
   have z0 := bz.cell 0
   have z1 := bz.cell 1
   have z2 := bz.cell 2
   have hno : ∀ b, notB w.heap.size b → b < wr.heap.size → ¬ b = w.heap.size + 1 + 1 := fun b hb _ e => by rcases hb with h | h <;> omega
   have t0 := (q0.farS hf9 hno).wide (G := anyB) (fun _ _ _ => trivial)
   have t1 := (q1.farS hf9 hno).wide (G := anyB) (fun _ _ _ => trivial)
   have t2 := (hrow.farS hf9 (fun b hb _ e => by omega)).ints
   have hbe : Below w.heap.size w (((wr.setCell ⟨w.heap.size + 1 + 1, 0, none⟩ (.slice c0 m0 l0)).setCell ⟨w.heap.size + 1 + 1, 1, none⟩ (.slice c1 m1 l1)).setCell ⟨w.heap.size + 1 + 1, 2, none⟩ (.int .i64 S.steps)) := ((hbr.setCell (by dsimp only; omega) _).setCell (by dsimp only; omega) _).setCell (by dsimp only; omega) _
   have HP := Lib.hid (And.intro hbe (And.intro t0 (And.intro t1 t2)))
   clear hf9 bz hno t0 t1 t2 hbe hrow hbv q0 q1 hown B4 B7 B8 hlw
   go_wp2
   refine bodyPost_ret (v := .tuple #[.agg #[.slice c0 m0 l0, .slice c1 m1 l1, .int .i64 S.steps], .slice av t cv, .nilIface]) (by simp [results, Tryz.results21, go_sem, z0, z1, z2]) rfl ⟨_, _, by rw [HFZ.out]; rfl, HP.out.1, fun _ => ?_, fun h => absurd HFZ.out h⟩
   rw [HL.out, HS.out]
   exact ⟨⟨c0, m0, l0, d0, p0, c1, m1, l1, d1, p1, rfl, HP.out.2.1, HP.out.2.2.1⟩, av, cv, bv, rfl, HP.out.2.2.2⟩
end
end Go.Proofs.YtgknjikjjklaiaaGreatDoor
end
