/- Texts joined: Again3. -/
import Derived.Test.YtchngeagnlngaaaJ42
import Derived.Test.YtchngeagnlngaaaJ44
import Derived.Test.YtchngeagnlngaaaJ33
import Derived.Test.YtchngeagnlngaaaJ34
import Derived.Test.YtchngeagnlngaaaJ38
import Derived.Test.YtchngeagnlngaaaJ26
import Derived.Test.YtchngeagnlngaaaJ10
import Derived.Test.YtchngeagnlngaaaJ35
import Derived.Test.YtchngeagnlngaaaJ32
section
set_option linter.unusedVariables false
set_option linter.unusedSimpArgs false
set_option linter.unusedSectionVars false
namespace Go.Proofs.Ytchngeagnlngaaa
open Go.RowKit Gal Go.Maps
set_option maxRecDepth 100000
set_option maxHeartbeats 4000000
theorem cells36 {w : World} {c d : Nat} {t1 t2 : TypeId} {x y z v0 v1 v2 v3 v4 v5 : Value} (k : Box w c [x, y, z] t1) (m : Box w d [v0, v1, v2, v3, v4, v5] t2) :
  w.cell? ⟨c, 0, none⟩ = some x ∧ w.cell? ⟨c, 1, none⟩ = some y ∧ w.cell? ⟨c, 2, none⟩ = some z ∧ w.cell? ⟨d, 0, none⟩ = some v0 ∧ w.cell? ⟨d, 1, none⟩ = some v1 ∧ w.cell? ⟨d, 2, none⟩ = some v2 ∧ w.cell? ⟨d, 3, none⟩ = some v3 ∧ w.cell? ⟨d, 4, none⟩ = some v4 ∧ w.cell? ⟨d, 5, none⟩ = some v5 :=
 ⟨k.cell 0, k.cell 1, k.cell 2, m.cell 0, m.cell 1, m.cell 2, m.cell 3, m.cell 4, m.cell 5⟩
theorem ShelfAt.farS {S : Nat → Prop} {w w' : World} {sb mb : Nat} {now most : Int} {l : List (Nat × Value)} (h : ShelfAt w sb mb now most l) (hf : Far S w w') (h1 : ¬ S sb) (h2 : ¬ S mb) : ShelfAt w' sb mb now most l :=
 ⟨h.box.farS hf h1, h.map.block (hf.block mb h.map.lt h2)⟩
theorem cells7m {w : World} {b i sb mb : Nat} {v0 v1 v2 v3 v4 v5 v6 u0 u1 u2 v : Value} {t : TypeId} {l : List (Nat × Value)} {p : Nat} (h : Cells7 w b i v0 v1 v2 v3 v4 v5 v6) (k : Box w sb [u0, u1, u2] t) (hm : MapV Try.prog 3 keyV w mb l) (hl : (p, v) ∈ l) (hp : p ≤ 12) :
  w.cell? ⟨b, i, none⟩ = some v0 ∧ w.cell? ⟨b, i + 1, none⟩ = some v1 ∧ w.cell? ⟨b, i + 2, none⟩ = some v2 ∧ w.cell? ⟨b, i + 3, none⟩ = some v3 ∧ w.cell? ⟨b, i + 4, none⟩ = some v4 ∧ w.cell? ⟨b, i + 5, none⟩ = some v5 ∧ w.cell? ⟨b, i + 6, none⟩ = some v6 ∧ w.cell? ⟨sb, 0, none⟩ = some u0 ∧
  (Instr.lookup 87 (.map (some mb)) (.int .i64 (p : Int)) false).run Try.prog w = .ok v w :=
 ⟨h.c0, h.c1, h.c2, h.c3, h.c4, h.c5, h.c6, k.cell 0, hm.lookup int_keys Try.underlying87 keyV_inj (keyV_of (k := p) (by omega)) hl⟩
theorem cells7g {w : World} {b i sb mb gb : Nat} {v0 v1 v2 v3 v4 v5 v6 u0 u1 u2 v z0 z1 z2 : Value} {t tm : TypeId} {l : List (Nat × Value)} {p : Nat} (h : Cells7 w b i v0 v1 v2 v3 v4 v5 v6) (k : Box w sb [u0, u1, u2] t) (hm : MapV Try.prog 3 keyV w mb l) (hl : (p, v) ∈ l) (hp : p ≤ 12) (hg : Box w gb [z0, z1, z2] tm) :
  w.cell? ⟨b, i, none⟩ = some v0 ∧ w.cell? ⟨b, i + 1, none⟩ = some v1 ∧ w.cell? ⟨b, i + 2, none⟩ = some v2 ∧ w.cell? ⟨b, i + 3, none⟩ = some v3 ∧ w.cell? ⟨b, i + 4, none⟩ = some v4 ∧ w.cell? ⟨b, i + 5, none⟩ = some v5 ∧ w.cell? ⟨b, i + 6, none⟩ = some v6 ∧ w.cell? ⟨sb, 0, none⟩ = some u0 ∧
  (Instr.lookup 87 (.map (some mb)) (.int .i64 (p : Int)) false).run Try.prog w = .ok v w ∧ w.cell? ⟨gb, 0, none⟩ = some z0 ∧ w.cell? ⟨gb, 1, none⟩ = some z1 ∧ w.cell? ⟨gb, 2, none⟩ = some z2 :=
 ⟨h.c0, h.c1, h.c2, h.c3, h.c4, h.c5, h.c6, k.cell 0, hm.lookup int_keys Try.underlying87 keyV_inj (keyV_of (k := p) (by omega)) hl, hg.cell 0, hg.cell 1, hg.cell 2⟩
def agFault (ls : List Lay) (x want : Mat) : Int :=
 if netGoFault ls x ≠ 0 then netGoFault ls x else if lossFault (netTo ls x ls.length) want ≠ 0 then lossFault (netTo ls x ls.length) want else bF ls (netOuts ls x ls.length) (lossBack (netTo ls x ls.length) want) ls.length ls.length
def AgEnd (w : World) (ls : List Lay) (x want : Mat) (n E : Nat) (f : Int) (e : Ending) (w' : World) : Prop :=
 ∃ v o m, e = .returned (.tuple #[v, .int .i64 o, .int .i64 m, errV f]) ∧ Below w.heap.size w w' ∧
  (f = 0 → o = lossOf (netTo ls x n) want ∧ m = mostIs n E ∧ ∃ a k b, v = .slice a n k ∧ RowAt Form.grd w' (newB w.heap.size) a n k b 0 (bDs ls (netOuts ls x n) (lossBack (netTo ls x n) want) n)) ∧
  (f ≠ 0 → v = .slice none 0 0 ∧ o = 0 ∧ m = 0)
theorem mod_step {E k j : Nat} (hE : 1 ≤ E) (hk : k % E = 0) (hj : j % E = 0) (h : j < k + E) : j ≤ k := by
 have h1 := Nat.div_add_mod k E
 have h2 := Nat.div_add_mod j E
 rw [hk] at h1
 rw [hj] at h2
 rcases Nat.lt_or_ge k j with h3 | h3
 ·exfalso
  have h4 : k / E < j / E := by
   rcases Nat.lt_or_ge (k / E) (j / E) with h5 | h5
   ·exact h5
   ·have := Nat.mul_le_mul_left E h5
    omega
  have h6 := Nat.mul_le_mul_left E (show k / E + 1 ≤ j / E from h4)
  rw [Nat.mul_add] at h6
  omega
 ·exact h3
theorem go_parts {ls : List Lay} {x : Mat} (h : netGoFault ls x = 0) : ls.length ≤ 12 ∧ x.fault = 0 ∧ goTo ls x ls.length = 0 := by
 unfold netGoFault at h
 by_cases h1 : 12 < ls.length
 ·rw [if_pos h1] at h; cases h
 ·rw [if_neg h1] at h
  by_cases h2 : x.fault ≠ 0
  ·rw [if_pos h2] at h; exact absurd h h2
  ·rw [if_neg h2] at h; exact ⟨by omega, Classical.not_not.1 h2, h⟩
theorem groups_end : ∀ k, k < 25 → ∀ n, n < 13 → ∀ E, E < 13 → (1 ≤ E ∧ k % E = 0 ∧ n ≤ k ∧ k < n + E) → k / E = groupsOf n E := by decide +kernel
theorem groups_zero : ∀ E, E < 13 → 1 ≤ E → groupsOf 0 E = 0 := by decide +kernel
theorem first_zero' : ∀ E : Nat, E < 13 → 1 ≤ E → (-1 : Int).tdiv (E : Int) = (if E = 1 then -1 else 0) := by decide +kernel
theorem first_zero (E : Nat) (h : E < 13) (h' : 1 ≤ E) : ∃ q : Int, (-1 : Int).tdiv (E : Int) = q ∧ -1 ≤ q ∧ q ≤ 0 := ⟨_, rfl, by rw [first_zero' E h h']; split <;> omega, by rw [first_zero' E h h']; split <;> omega⟩
theorem groups_le : ∀ n, n < 13 → ∀ E, E < 13 → 1 ≤ E → groupsOf n E ≤ 12 := by decide +kernel
theorem groups_cover : ∀ n, n < 13 → ∀ E, E < 13 → 1 ≤ E → n ≤ groupsOf n E * E := by decide +kernel
theorem groups_small : ∀ n : Nat, n < 13 → ∀ E : Nat, E < 13 → ∀ t : Nat, t < 13 → (1 ≤ E ∧ 1 ≤ n) → (groupsOf n E - t) * E < n + E := by decide +kernel
theorem first_is : ∀ n : Nat, n < 13 → ∀ E : Nat, E < 13 → (1 ≤ E ∧ 1 ≤ n) → ((n : Int) - 1).tdiv (E : Int) * (E : Int) = ((groupsOf n E * E : Nat) : Int) - (E : Int) := by decide +kernel
theorem first_is' : ∀ n : Nat, n < 13 → ∀ E : Nat, E < 13 → (1 ≤ E ∧ 1 ≤ n) → ((n : Int) - 1) / (E : Int) * (E : Int) = ((groupsOf n E * E : Nat) : Int) - (E : Int) := by decide +kernel
theorem grp1 : ∀ n : Nat, n < 13 → ∀ E : Nat, E < 13 → ∀ t : Nat, t < 13 → (1 ≤ E ∧ 1 ≤ n ∧ t < groupsOf n E) → firstOf n E t + E = (groupsOf n E - t) * E := by decide +kernel
theorem grp2 : ∀ n : Nat, n < 13 → ∀ E : Nat, E < 13 → ∀ t : Nat, t < 13 → (1 ≤ E ∧ 1 ≤ n ∧ t < groupsOf n E) → endOf n E t = min ((groupsOf n E - t) * E) n := by decide +kernel
theorem grp3 : ∀ n : Nat, n < 13 → ∀ E : Nat, E < 13 → ∀ t : Nat, t < 13 → (1 ≤ E ∧ 1 ≤ n ∧ t < groupsOf n E) → firstOf n E t < n ∧ firstOf n E t % E = 0 := by decide +kernel
theorem grp4 : ∀ n : Nat, n < 13 → ∀ E : Nat, E < 13 → ∀ t : Nat, t < 13 → (1 ≤ E ∧ 1 ≤ n ∧ t < groupsOf n E) → (groupsOf n E - (t + 1)) * E = firstOf n E t := by decide +kernel
theorem kept_bd : ∀ n, n < 13 → ∀ E, E < 13 → ∀ t, t < 13 → (1 ≤ E ∧ t ≤ groupsOf n E) → (keptTo n E t).1 ≤ (keptTo n E t).2 ∧ (keptTo n E t).2 ≤ 30 ∧ 1 ≤ (keptTo n E t).1 := by decide +kernel
theorem kept_next (n E t : Nat) : keptTo n E (t + 1) = ((keptTo n E t).1 + (endOf n E t - firstOf n E t - 1) - (endOf n E t - firstOf n E t), max (keptTo n E t).2 ((keptTo n E t).1 + (endOf n E t - firstOf n E t - 1))) := rfl
def S2 (n E f j : Nat) : Prop := (j < f ∧ j < n ∧ j % E = 0) ∨ j = n
theorem s2_init (n : Nat) (hn : n < 13) (E : Nat) (hE12 : E < 13) (hE : 1 ≤ E) (j : Nat) : ((j < n ∧ j % E = 0) ∨ j = n) ↔ S2 n E (groupsOf n E * E) j := by
 have h := groups_cover n hn E hE12 hE
 unfold S2
 constructor
 ·rintro (⟨h1, h2⟩ | h)
  ·exact Or.inl ⟨by omega, h1, h2⟩
  ·exact Or.inr h
 ·rintro (⟨h1, h2, h3⟩ | h)
  ·exact Or.inl ⟨h2, h3⟩
  ·exact Or.inr h
def offB (s m g o b : Nat) : Prop := b ≠ s ∧ b ≠ m ∧ b ≠ g ∧ b ≠ o
def S1 (n E k j : Nat) : Prop := j < k ∧ j < n ∧ j % E = 0
theorem s1_next {n E k : Nat} (hE : 1 ≤ E) (hk : k % E = 0) (hn : k < n) (j : Nat) : (S1 n E k j ∨ j = k) ↔ S1 n E (k + E) j := by
 unfold S1
 constructor
 ·rintro (⟨h1, h2, h3⟩ | rfl)
  ·exact ⟨by omega, h2, h3⟩
  ·exact ⟨by omega, hn, hk⟩
 ·rintro ⟨h1, h2, h3⟩
  have := mod_step hE hk h3 h1
  rcases Nat.lt_or_ge j k with h4 | h4
  ·exact Or.inl ⟨h4, h2, h3⟩
  ·exact Or.inr (by omega)
theorem againBack_any (ls : List Lay) (x want : Mat) (F : Nat → Prop) (a0 : Option Addr) (n k0 b0 o0 : Nat) (vx vw : Value) (w : World) (h0 : RowAt Form.lay w F a0 n k0 b0 o0 ls) (hx : MatAt w vx x) (hw : MatAt w vw want) (E : Nat) (hE : 1 ≤ E) (hE12 : E ≤ 12) :
  Calls Try.prog 9 #[.slice a0 n k0, vx, vw, .int .i64 E] w (AgEnd w ls x want n E (agFault ls x want)) := by
 obtain ⟨i0, hi, iz0, iz1, iz2⟩ := info_parts info_grad
 obtain ⟨ax, nx, kx, bx, ox, rfl, x1⟩ := hx
 obtain ⟨aw, nw, kw, bw, ow, rfl, x2⟩ := hw
 have hl := h0.len
 have h00 := h0
 have hm := h0.max
 unfold maxLen at hm
 have e1 : ¬ (E : Int) < 1 := by omega
 have e2 : ¬ (12 : Int) < (E : Int) := by omega
 by_cases hgo : netGoFault ls x = 0
 ·have HEG : Hid (errV (netGoFault ls x) = .nilIface) := Lib.hid (errV_nil hgo)
  have HGO := Lib.hid hgo
  go_enter Try.func9, Try.ntmps9
  go_wp2_with fail
  refine (netGo_any ls F _ _ _ _ _ x _ _ ((h0.alloc _).alloc _) (MatAt.mk ((x1.alloc _).alloc _))).mono ?_
  rw [HEG.out]
  rintro e w1 ⟨uG, rfl, hb1, huG, _⟩
  obtain ⟨aG, kG, bG, rfl, rG⟩ := huG HGO.out
  have P5 := ((Box.new w [.int .i64 x.rows, .int .i64 x.cols, .slice ax nx kx] 28).alloc _).keep hb1
  have P5c := P5.cell
  have P5f := P5.thawed
  have P5z := P5.lt
  have P5k := lt_add P5z
  have P6 := ((show Box _ (w.heap.size + 1) [.int .i64 want.rows, .int .i64 want.cols, .slice aw nw kw] 28 from Box.x0)).keep hb1
  have P6c := P6.cell
  have P6f := P6.thawed
  have P6z := P6.lt
  have P6k := lt_add P6z
  have hkw1 : Below w.heap.size w w1 := (Below.x1 hb1)
  replace h0 := h0.keep hkw1
  replace x2 := x2.keep hkw1
  have hsw1 := hkw1.size
  clear huG x1 hgo
  have hmm := @run_makeMap Try.prog
  obtain ⟨h12, hxf, hgt⟩ := go_parts HGO.out
  have hn12 : n ≤ 12 := by omega
  have HXF := Lib.hid hxf
  have HGT : Hid (goTo ls x n = 0) := Lib.hid (by rw [← hl]; exact hgt)
  have HMX : Hid (∀ k, k ≤ n → mx (netOuts ls x n) k = netTo ls x k) := Lib.hid (fun k hk => outs_mx hk)
  clear hxf hgt
  obtain ⟨wS, hwS, hS0, hbS, hzS⟩ : ∃ wS, (w1.alloc (.map #[] 0)).alloc (.cells #[.map (some w1.heap.size), .int .i64 0, .int .i64 0] 89) = wS ∧ ShelfAt wS (w1.heap.size + 1) w1.heap.size 0 0 [] ∧ Below w1.heap.size w1 wS ∧ wS.heap.size = w1.heap.size + 1 + 1 :=
   ⟨_, rfl, ⟨Box.new' _ _ _ _ (by simp), (MapV.new w1).alloc _⟩, Below.x0, by simp⟩
  go_wp2
  go_loopw [15] (fun i wr => ∃ (k : Nat) (l : List (Nat × Value)), i = .int .i64 k ∧ k % E = 0 ∧ k < n + E ∧ ShelfAt wr (w1.heap.size + 1) w1.heap.size ((k / E : Nat) : Int) ((k / E : Nat) : Int) l ∧ KeptM ls x (fun b => b < w1.heap.size) (S1 n E k) wr l ∧ Below w1.heap.size w1 wr ∧ w1.heap.size + 1 < wr.heap.size) (fun i _ => n - (intOf i).toNat)
  case atStart => exact ⟨0, [], rfl, Nat.zero_mod _, by omega, by rw [Nat.zero_div]; exact hS0, (KeptM.none _).same (fun j => ⟨fun h => absurd h id, fun h => absurd h.1 (Nat.not_lt_zero _)⟩), hbS, by omega⟩
  case round =>
   obtain ⟨k, l, rfl, hk0, hkn, hsh, hkp, hbr, hzr⟩ := hrel
   by_cases hlt : k < n
   ·obtain ⟨a6, n6, k6, b6, o6, hcm, xg⟩ := mats_cells (i := k) rG (by omega)
    rw [HMX.out k (by omega)] at hcm xg
    rw [Nat.zero_add] at hcm
    obtain rfl := rG.ptr (Nat.succ_pos _)
    have hxl := xg.lt
    have hcm' := hcm.keep hbr
    have m0 := hcm'.c0
    have m1 := hcm'.c1
    have m2 := hcm'.c2
    have pI : (k : Int) < (n : Int) + 1 := by omega
    have hnew := hkp.new (k := k) (fun h => absurd h.1 (Nat.lt_irrefl _))
    have hq := Nat.div_le_self k E
    obtain ⟨q, hqe⟩ : ∃ q, k / E = q := ⟨_, rfl⟩
    have HQE := Lib.hid hqe
    rw [hqe] at hsh hq
    have HK0 := Lib.hid hk0
    clear hcm hcm' hqe hk0
    go_wp2_with fail
    refine (shelfPut_new hsh k (netTo ls x k).rows (netTo ls x k).cols a6 n6 k6 (by omega) hnew (by omega) (by omega)).mono ?_
    rintro e w2 ⟨rfl, hsh2, hf2⟩
    go_wp2
    go_roundw
    case rel =>
     have hd : (k + E) / E = q + 1 := by rw [Nat.add_div_right _ (by omega), HQE.out]
     refine ⟨k + E, _, by go_num, by rw [Nat.add_mod_right]; exact HK0.out, by omega, ?_, ((hkp.farS hf2 (fun b hb _ => by rintro (e | e) <;> omega)).put rfl (fun hm => hxl hm) ((xg.keep hbr).farS hf2 (fun hm => by have := hxl hm; rintro (e | e) <;> omega))).same (s1_next hE HK0.out hlt), Far.toBelow hbr hf2 (by omega) (by rintro b (e | e) <;> omega), by have := hf2.size; omega⟩
     rw [hd]
     have hmq : max (q : Int) ((q : Int) + 1) = (q : Int) + 1 := by omega
     rw [hmq] at hsh2
     push_cast
     exact hsh2
    case measure => simp [intOf]; omega
   ·obtain ⟨q, hqe⟩ : ∃ q, k / E = q := ⟨_, rfl⟩
    have hqg : q = groupsOf n E := by rw [← hqe]; exact groups_end k (by omega) n (by omega) E (by omega) ⟨hE, hk0, by omega, hkn⟩
    have hq12 : q ≤ 12 := by rw [hqg]; exact groups_le n (by omega) E (by omega) hE
    have HQG := Lib.hid hqg
    rw [hqe] at hsh
    have hkp1 : KeptM ls x (fun b => b < w1.heap.size) (fun j => j < n ∧ j % E = 0) wr l := hkp.same (fun j => ⟨fun h => ⟨h.2.1, h.2.2⟩, fun h => ⟨by omega, h.1, h.2⟩⟩)
    obtain ⟨M, hM⟩ : ∃ M, netTo ls x n = M := ⟨_, rfl⟩
    obtain ⟨a6, n6, k6, b6, o6, hcm, xg⟩ := mats_cells (i := n) rG (by omega)
    rw [HMX.out n (by omega), hM] at hcm xg
    rw [Nat.zero_add] at hcm
    obtain rfl := rG.ptr (Nat.succ_pos _)
    have hxl := xg.lt
    have hcm' := hcm.keep hbr
    have m0 := hcm'.c0
    have m1 := hcm'.c1
    have m2 := hcm'.c2
    have pI : (n : Int) < (n : Int) + 1 := by omega
    have hnew := hkp1.new (k := n) (fun h => absurd h.1 (Nat.lt_irrefl _))
    have hk' : ¬ (k : Int) < (n : Int) := by omega
    clear hcm hcm' hqe hk0 hqg hkp hlt hkn
    go_wp2_with fail
    refine (shelfPut_new (hsh.alloc _) n M.rows M.cols a6 n6 k6 (by omega) hnew (by omega) (by omega)).mono ?_
    rintro e w2 ⟨rfl, hsh2, hf2⟩
    have hmq : max (q : Int) ((q : Int) + 1) = (q : Int) + 1 := by omega
    rw [hmq] at hsh2
    have B16 := (Box.new wr [.int .i64 M.rows, .int .i64 M.cols, .slice a6 n6 k6] 28).farS hf2 (by rintro (e | e) <;> omega)
    have B16c := B16.cell
    have B16f := B16.thawed
    have B16z := B16.lt
    have B16k := lt_add B16z
    have hb2 : Below w1.heap.size w1 w2 := Far.toBelow (Below.al hbr _) hf2 (by simp; omega) (by rintro b (e | e) <;> omega)
    have P6 := P6.keep hb2
    have P6c := P6.cell
    have P6f := P6.thawed
    have P6z := P6.lt
    have P6k := lt_add P6z
    have hkp2 := ((hkp1.keep ((Below.refl wr.heap.size wr).alloc (Nat.le_refl _) _)).farS hf2 (fun b hb _ => by rintro (e | e) <;> omega)).put hM (fun hm => hxl hm) (((xg.keep hbr).alloc _).farS hf2 (fun hm => by have := hxl hm; rintro (e | e) <;> omega))
    replace xg := xg.keep hb2
    replace x2 := x2.keep hb2
    replace h0 := h0.keep hb2
    have hz2 : w1.heap.size + 1 < w2.heap.size := by have := hf2.size; simp at this; omega
    clear hsh hkp1 m0 m1 m2 hnew hmq
    go_wp2_with fail
    by_cases hlo : lossFault M want = 0
    ·refine (lossOf_ok M want _ _ _ (MatAt.mk xg) (MatAt.mk x2) hlo).mono ?_
     rintro e w3 ⟨rfl, hb3⟩
     have B16 := B16.keep hb3
     have B16c := B16.cell
     have B16f := B16.thawed
     have B16z := B16.lt
     have B16k := lt_add B16z
     have P6 := P6.keep hb3
     have P6c := P6.cell
     have P6f := P6.thawed
     have P6z := P6.lt
     have P6k := lt_add P6z
     have HLO := Lib.hid hlo
     replace xg := xg.keep hb3
     replace x2 := x2.keep hb3
     clear hlo
     go_wp2_with fail
     refine (lossBack_ok M want _ _ _ (MatAt.mk xg) (MatAt.mk x2) HLO.out).mono ?_
     rintro e w4 ⟨vg, rfl, ⟨ag, ng, kg, bg, og, rfl, hng, xq⟩, hb4⟩
     obtain ⟨mo, hmo⟩ : ∃ mo, lossOf M want = mo := ⟨_, rfl⟩
     obtain ⟨g, hg⟩ : ∃ g, lossBack M want = g := ⟨_, rfl⟩
     rw [hg] at xq ⊢
     rw [hmo]
     have HMO := Lib.hid hmo
     have HGB := Lib.hid hg
     clear hg hmo
     have hb24 : Below w2.heap.size w2 w4 := (Below.x2 hb4 hb3)
     have hsh4 := hsh2.keep hb24
     have hkp4 := hkp2.keep hb24
     have hz4 := hb24.size
     replace h0 := h0.keep hb24
     have hmk := fun W => run_make_rowN (P := Try.prog) 23 93 i0 _ Try.underlying23 hi iz0 .i64 .i64 n n (n : Int) (n : Int) rfl rfl (Nat.le_refl _) (by rw [iz2]; omega) (by omega) W
     rw [iz1] at hmk
     obtain ⟨cs0, hcs0, hcl0⟩ : ∃ cs0 : List Value, madeCells (Value.agg #[.int .i64 0, .int .i64 0, .slice none 0 0, .int .i64 0, .int .i64 0, .slice none 0 0]).cells (n * 6) = cs0.toArray ∧ cs0.length = n * 6 := ⟨_, (Array.toArray_toList).symm, by rw [Array.length_toList, size_madeCells]⟩
     rw [hcs0] at hmk
     have HCL := Lib.hid hcl0
     clear hcs0 hcl0 B16 B16c B16f B16z B16k P6 P6c P6f P6z P6k xg x2 hsh2 hkp2 hi iz0 iz1
     have hkp0 : KeptM ls x (offB (w1.heap.size + 1) w1.heap.size w4.heap.size (w4.heap.size + 1)) (S2 n E (groupsOf n E * E)) ((w4.alloc (.cells #[.int .i64 g.rows, .int .i64 g.cols, .slice ag ng kg] 28)).alloc (.cells cs0.toArray 93)) (l ++ [(n, .agg #[.int .i64 M.rows, .int .i64 M.cols, .slice a6 n6 k6])]) := by
      have h1 := (hkp4.wide (G := offB (w1.heap.size + 1) w1.heap.size w4.heap.size (w4.heap.size + 1)) (fun b hb _ => ⟨by omega, by omega, by omega, by omega⟩)).keep (Below.al (Below.al (Below.refl w4.heap.size w4) (.cells #[.int .i64 g.rows, .int .i64 g.cols, .slice ag ng kg] 28)) (.cells cs0.toArray 93))
      exact h1.same (fun j => s2_init n (by omega) E (by omega) hE j)
     have hag0 : AgSt 28 93 ls (netOuts ls x n) g n (fun b => offB (w1.heap.size + 1) w1.heap.size w4.heap.size (w4.heap.size + 1) b ∧ w.heap.size ≤ b) w4.heap.size (w4.heap.size + 1) (descs n (n - (groupsOf n E - 0) * E)) ((w4.alloc (.cells #[.int .i64 g.rows, .int .i64 g.cols, .slice ag ng kg] 28)).alloc (.cells cs0.toArray 93)) := by
      have hcv := groups_cover n (by omega) E (by omega) hE
      rw [Nat.sub_zero, show n - groupsOf n E * E = 0 by omega]
      have hxq := xq.lt
      exact ⟨.nil, ⟨ag, ng, kg, bg, og, (Box.new w4 _ _).alloc _, (xq.alloc _).alloc _, fun hm => by have h1 := hng hm; have h2 := hxq hm; have h3 := hb3.size; exact ⟨⟨by omega, by omega, by omega, by omega⟩, by omega⟩⟩, cs0, Box.new' _ _ _ _ (by simp), HCL.out, fun j d hd _ => by cases hd⟩
     have hsh0 : ShelfAt ((w4.alloc (.cells #[.int .i64 g.rows, .int .i64 g.cols, .slice ag ng kg] 28)).alloc (.cells cs0.toArray 93)) (w1.heap.size + 1) w1.heap.size ((keptTo n E 0).1 : Nat) ((keptTo n E 0).2 : Nat) (l ++ [(n, .agg #[.int .i64 M.rows, .int .i64 M.cols, .slice a6 n6 k6])]) := by
      have h1 := (hsh4.alloc (.cells #[.int .i64 g.rows, .int .i64 g.cols, .slice ag ng kg] 28)).alloc (.cells cs0.toArray 93)
      rw [HQG.out] at h1
      exact h1
     have hbL : Below w1.heap.size w1 ((w4.alloc (.cells #[.int .i64 g.rows, .int .i64 g.cols, .slice ag ng kg] 28)).alloc (.cells cs0.toArray 93)) := Below.al (Below.al (hb2.go hb24) _) _
     have hzL : (w4.heap.size + 1) < ((w4.alloc (.cells #[.int .i64 g.rows, .int .i64 g.cols, .slice ag ng kg] 28)).alloc (.cells cs0.toArray 93)).heap.size := by simp
     obtain ⟨wL, hwL⟩ : ∃ wL, (w4.alloc (.cells #[.int .i64 g.rows, .int .i64 g.cols, .slice ag ng kg] 28)).alloc (.cells cs0.toArray 93) = wL := ⟨_, rfl⟩
     rw [hwL] at hkp0 hag0 hsh0 hbL hzL
     have hw14 : w1.heap.size + 1 < w4.heap.size := by omega
     clear hb24 hsh4 hkp4 hz4 hz2 hng xq hb4 hb3 hxl hzr hbr rG hb2
     by_cases hn0 : n = 0
     ·have hg0 : groupsOf n E = 0 := by rw [hn0]; exact groups_zero E (by omega) hE
      have hsh : ShelfAt wL (w1.heap.size + 1) w1.heap.size ((keptTo n E (groupsOf n E)).1 : Nat) ((keptTo n E (groupsOf n E)).2 : Nat) (l ++ [(n, .agg #[.int .i64 M.rows, .int .i64 M.cols, .slice a6 n6 k6])]) := by rw [hg0]; exact hsh0
      have hag := hag0
      rw [hg0, Nat.sub_zero, Nat.zero_mul, Nat.sub_zero] at hag
      have hbr : Below w.heap.size w wL := (show Below w.heap.size w w1 from (Below.x1 hb1)).go hbL
      have hzw : w.heap.size ≤ w1.heap.size := by have := hb1.size; simp at this; omega
      have hzL1 := hzL
      clear hkp0 hag0 hsh0 hbL h0
      obtain ⟨q, hq, hq1, hq2⟩ := first_zero E (by omega) hE
      replace hq : ((n : Int) - 1).tdiv (E : Int) = q := by rw [hn0]; exact hq
      have HN0 := Lib.hid hn0
      clear hn0 hg0
      go_wp2
      obtain ⟨ob, hob⟩ : ∃ ob, w4.heap.size + 1 = ob := ⟨_, rfl⟩
      obtain ⟨gb, hgb⟩ : ∃ gb, w4.heap.size = gb := ⟨_, rfl⟩
      obtain ⟨sb, hsb⟩ : ∃ sb, w1.heap.size + 1 = sb := ⟨_, rfl⟩
      obtain ⟨mb, hmb⟩ : ∃ mb, w1.heap.size = mb := ⟨_, rfl⟩
      rw [hob, hgb, hsb, hmb]
      rw [hsb, hmb] at hsh
      rw [hob, hgb, hsb, hmb] at hag
      have hzo : w.heap.size ≤ ob := by omega
      clear hob hgb hsb hmb hw14 hzw
      have hnz1 : decide ((0 : Int) < (n : Int)) = false := by have := HN0.out; simp; omega
      have hnz2 : decide (0 < n) = false := by have := HN0.out; simp; omega
      go_loopw [21] (fun i wr => (∃ f : Int, i = .int .i64 f) ∧ wr = wL) (fun i _ => 0)
      case atStart => exact ⟨⟨_, rfl⟩, rfl⟩
      case round =>
       obtain ⟨⟨f, rfl⟩, rfl⟩ := hrel
       by_cases hf0 : (0 : Int) ≤ f
       ·skip
        have c2 := hsh.box.cell 2
        have hbF : bF ls (netOuts ls x n) g n n = 0 := bF_descs n n (Nat.le_refl _) hag.ok
        have HR := Lib.hid (agSt_done hag (by unfold maxLen; omega) (Or.inr trivial) (G := newB w.heap.size) (by unfold newB; omega) (fun b h => h.2))
        have HAG : Hid (agFault ls x want = 0) := Lib.hid (by
         unfold agFault
         rw [if_neg (fun h => h HGO.out), hl, hM, if_neg (fun h => h HLO.out), HGB.out]
         exact hbF)
        have HK : Hid ((keptTo n E (groupsOf n E)).2 = mostIs n E) := Lib.hid (most_is n (by omega) E (by omega) hE).2.1
        go_wp2
        go_region
        all_goals
         go_wp2
         refine bodyPost_ret (v := .tuple #[.slice (some ⟨ob, 0, none⟩) n n, .int .i64 mo, .int .i64 ((keptTo n E (groupsOf n E)).2 : Nat), .nilIface]) (by simp [results, Try.results9, go_sem]) rfl ⟨_, _, _, by rw [HAG.out]; rfl, (Below.y0 hbr), fun _ => ⟨by rw [hM, HMO.out], by rw [HK.out], _, _, _, rfl, by rw [hM, HGB.out]; exact HR.out.keep Below.x0⟩, fun h => absurd HAG.out h⟩
       ·skip
        have c2 := hsh.box.cell 2
        have hbF : bF ls (netOuts ls x n) g n n = 0 := bF_descs n n (Nat.le_refl _) hag.ok
        have HR := Lib.hid (agSt_done hag (by unfold maxLen; omega) (Or.inr trivial) (G := newB w.heap.size) (by unfold newB; omega) (fun b h => h.2))
        have HAG : Hid (agFault ls x want = 0) := Lib.hid (by
         unfold agFault
         rw [if_neg (fun h => h HGO.out), hl, hM, if_neg (fun h => h HLO.out), HGB.out]
         exact hbF)
        have HK : Hid ((keptTo n E (groupsOf n E)).2 = mostIs n E) := Lib.hid (most_is n (by omega) E (by omega) hE).2.1
        go_wp2
        go_region
        all_goals
         go_wp2
         refine bodyPost_ret (v := .tuple #[.slice (some ⟨ob, 0, none⟩) n n, .int .i64 mo, .int .i64 ((keptTo n E (groupsOf n E)).2 : Nat), .nilIface]) (by simp [results, Try.results9, go_sem]) rfl ⟨_, _, _, by rw [HAG.out]; rfl, (Below.y0 hbr), fun _ => ⟨by rw [hM, HMO.out], by rw [HK.out], _, _, _, rfl, by rw [hM, HGB.out]; exact HR.out.keep Below.x0⟩, fun h => absurd HAG.out h⟩
     ·have hf1 := first_is n (by omega) E (by omega) ⟨hE, by omega⟩
      have hf2 := first_is' n (by omega) E (by omega) ⟨hE, by omega⟩
      have hf3 := groups_small n (by omega) E (by omega) 0 (by omega) ⟨hE, by omega⟩
      have hf4 := groups_cover n (by omega) E (by omega) hE
      rw [Nat.sub_zero] at hf3
      obtain ⟨f0, hf0⟩ : ∃ f0, groupsOf n E * E = f0 := ⟨_, rfl⟩
      rw [hf0] at hf1 hf2 hf3 hf4
      have HF0 := Lib.hid hf0
      clear hf0
      have hbw : Below w.heap.size w wL := (show Below w.heap.size w w1 from (Below.x1 hb1)).go hbL
      have hzw : w.heap.size ≤ w1.heap.size := by have := hb1.size; simp at this; omega
      clear hbL h0
      go_wp2
      obtain ⟨ob, hob⟩ : ∃ ob, w4.heap.size + 1 = ob := ⟨_, rfl⟩
      obtain ⟨gb, hgb⟩ : ∃ gb, w4.heap.size = gb := ⟨_, rfl⟩
      obtain ⟨sb, hsb⟩ : ∃ sb, w1.heap.size + 1 = sb := ⟨_, rfl⟩
      obtain ⟨mb, hmb⟩ : ∃ mb, w1.heap.size = mb := ⟨_, rfl⟩
      rw [hob, hgb, hsb, hmb]
      rw [hob] at hzL
      rw [hsb, hmb] at hsh0
      rw [hob, hgb, hsb, hmb] at hkp0 hag0
      have hne1 : w.heap.size ≤ mb ∧ mb < sb ∧ sb < gb ∧ gb < ob := ⟨by omega, by omega, by omega, by omega⟩
      obtain ⟨n1, n2, n3, n4⟩ := hne1
      clear hob hgb hsb hmb hw14 hzw
      go_loopw [21] (fun i wr => ∃ (t : Nat) (l : List (Nat × Value)), t ≤ groupsOf n E ∧ i = .int .i64 (((groupsOf n E - t) * E : Nat) - (E : Int)) ∧ ShelfAt wr sb mb ((keptTo n E t).1 : Nat) ((keptTo n E t).2 : Nat) l ∧ KeptM ls x (offB sb mb gb ob) (S2 n E ((groupsOf n E - t) * E)) wr l ∧
       AgSt 28 93 ls (netOuts ls x n) g n (fun b => offB sb mb gb ob b ∧ w.heap.size ≤ b) gb ob (descs n (n - (groupsOf n E - t) * E)) wr ∧ Below w.heap.size w wr ∧ ob < wr.heap.size) (fun i _ => (intOf i + E).toNat)
      case atStart => exact ⟨0, _, Nat.zero_le _, by rw [Nat.sub_zero, HF0.out], hsh0, by rw [Nat.sub_zero]; exact hkp0, hag0, hbw, hzL⟩
      case round =>
       obtain ⟨t, l2, htG, rfl, hsh, hkp, hag, hbr, hzr⟩ := hrel
       have hG12 := groups_le n (by omega) E (by omega) hE
       by_cases hlt : t < groupsOf n E
       ·have g1 := grp1 n (by omega) E (by omega) t (by omega) ⟨hE, by omega, hlt⟩
        have g2 := grp2 n (by omega) E (by omega) t (by omega) ⟨hE, by omega, hlt⟩
        obtain ⟨g3, g5⟩ := grp3 n (by omega) E (by omega) t (by omega) ⟨hE, by omega, hlt⟩
        have g4 := grp4 n (by omega) E (by omega) t (by omega) ⟨hE, by omega, hlt⟩
        obtain ⟨kb1, kb2, kb3⟩ := kept_bd n (by omega) E (by omega) t (by omega) ⟨hE, htG⟩
        have kn := kept_next n E t
        obtain ⟨c, hc⟩ : ∃ c, firstOf n E t = c := ⟨_, rfl⟩
        obtain ⟨d, hd⟩ : ∃ d, endOf n E t = d := ⟨_, rfl⟩
        rw [hc] at g1 g3 g5 g4 kn
        rw [hd] at g2 kn
        rw [← g1] at hkp hag g2 ⊢
        have hci : (((c + E : Nat) : Int) - (E : Int)) = (c : Int) := by push_cast; omega
        rw [hci]
        obtain ⟨A, hA⟩ : ∃ A, (keptTo n E t).1 = A := ⟨_, rfl⟩
        obtain ⟨B, hB⟩ : ∃ B, (keptTo n E t).2 = B := ⟨_, rfl⟩
        rw [hA, hB] at hsh kn
        rw [hA] at kb3
        rw [hA, hB] at kb1
        rw [hB] at kb2
        have hcd : c < d := by omega
        have hdn : d ≤ n := by omega
        have hdc : d ≤ c + E := by omega
        rw [show n - (c + E) = n - d by omega] at hag
        have hkp' : KeptM ls x (offB sb mb gb ob) (fun j => S2 n E (c + E) j ∨ (c < j ∧ j < c + 1)) wr l2 := hkp.same (fun j => ⟨fun h => Or.inl h, fun h => by rcases h with h | h; exact h; omega⟩)
        have KN := Lib.hid kn
        have G4 := Lib.hid g4
        have G5 := Lib.hid g5
        have HTG := Lib.hid hlt
        have hc0 : (0 : Int) ≤ (c : Int) := by omega
        have hn0' : (0 : Int) < (n : Int) := by omega
        have HG2 := Lib.hid g2
        clear hc hd hA hB kn g4 g5 g1 g2 hci hkp htG hlt
        go_upto_region 21 with fail
        go_cut [22] (fun s wx => s = .int .i64 d ∧ wx = wr)
        case first =>
         go_wp2
         all_goals
          go_meet
          exact ⟨by have := HG2.out; congr 1; omega, rfl⟩
        case rest =>
         obtain ⟨rfl, rfl⟩ := hcut
         go_wp2
         go_loopw [23] (fun i wx => ∃ (k : Nat) (l3 : List (Nat × Value)), c + 1 ≤ k ∧ k ≤ d ∧ i = .int .i64 k ∧ ShelfAt wx sb mb ((A + (k - c - 1) : Nat) : Int) ((max B (A + (k - c - 1)) : Nat) : Int) l3 ∧ KeptM ls x (offB sb mb gb ob) (fun j => S2 n E (c + E) j ∨ (c < j ∧ j < k)) wx l3 ∧
          AgSt 28 93 ls (netOuts ls x n) g n (fun b => offB sb mb gb ob b ∧ w.heap.size ≤ b) gb ob (descs n (n - d)) wx ∧ Below w.heap.size w wx ∧ ob < wx.heap.size) (fun i _ => d - (intOf i).toNat)
         case atStart => exact ⟨c + 1, l2, Nat.le_refl _, by omega, by push_cast; rfl, by rw [show c + 1 - c - 1 = 0 by omega, Nat.add_zero, show max B A = B by omega]; exact hsh, hkp', hag, hbr, hzr⟩
         case round =>
          clear hsh hkp' hag hbr hzr
          obtain ⟨k, l3, hk1, hkd, rfl, hsh, hkp, hag, hbr, hzr⟩ := hrel
          by_cases hlt : k < d
          ·obtain ⟨p, hp⟩ : ∃ p, k = p + 1 := ⟨k - 1, by omega⟩
           have hpn : p < n := by omega
           obtain rfl := h00.ptr (by omega)
           have hbl := h00.lt (by omega)
           have hrow := h00.keep hbr
           obtain ⟨a4, n4, k4, b4, o4, a5, n5, k5, b5, o5, c0, c1, c2, c3, c4, c5, c6, x4, x5⟩ := lay_cells hrow hpn
           obtain ⟨Y, hY⟩ : ∃ Y, netTo ls x p = Y := ⟨_, rfl⟩
           obtain ⟨Z, hZ⟩ : ∃ Z, netTo ls x k = Z := ⟨_, rfl⟩
           obtain ⟨a7, n7, k7, b7, o7, hmem, hF7, x7⟩ := hkp.get (k := p) (by
            rcases Nat.lt_or_ge c p with h | h
            ·exact Or.inr ⟨h, by omega⟩
            ·obtain rfl : p = c := by omega
             exact Or.inl (Or.inl ⟨by omega, hpn, G5.out⟩)) hY
           have hgp : goTo ls x p = 0 := goTo_less (show p ≤ n by omega) HGT.out
           have HGF : Hid ((lx ls p).goFault Y = 0) := Lib.hid (by
            have h1 := goTo_less (show p + 1 ≤ n by omega) HGT.out
            rw [goTo_succ hgp, hY] at h1
            exact h1)
           have HGY : Hid ((lx ls p).go Y = Z) := Lib.hid (by rw [← hY, ← hZ, hp]; rfl)
           have hsb' := hsh.box
           have hmb' := hsh.map
           have hsl := hsb'.lt
           have hml := hmb'.lt
           have C7 : Cells7 wr b0 (o0 + p * 7) (.int .i64 (lx ls p).kind) (.int .i64 (lx ls p).W.rows) (.int .i64 (lx ls p).W.cols) (.slice a4 n4 k4) (.int .i64 (lx ls p).B.rows) (.int .i64 (lx ls p).B.cols) (.slice a5 n5 k5) := ⟨c0, c1, c2, c3, c4, c5, c6⟩
           have hi0 : (k : Int) - 1 = (p : Int) := by omega
           have hi1 : IntKind.i64.wrap ((k : Int) - 1) = (p : Int) := by rw [hi0]; exact IntWalk.i64_in _ (by omega)
           have hi2 : (p : Int) < (n : Int) := by omega
           have hi3 : (0 : Int) ≤ (p : Int) := by omega
           have hws := hbr.size
           have HP := Lib.hid hp
           have HZ := Lib.hid hZ
           clear c0 c1 c2 c3 c4 c5 c6 hgp hY hZ hrow hi0 hp
           go_wp2_with fail
           go_cut [24, 25] (fun s24 s25 wx => ∃ q a8 n8 k8 b8 o8, s24 = .pointer (some ⟨q, 0, none⟩) ∧ s25 = .nilIface ∧ Box wx q [.int .i64 Z.rows, .int .i64 Z.cols, .slice a8 n8 k8] 28 ∧ IntsAt wx a8 n8 k8 b8 o8 Z.cells ∧ (0 < n8 → wr.heap.size ≤ b8) ∧ Below wr.heap.size wr wx ∧ wr.heap.size ≤ wx.heap.size)
           case first =>
            go_region_held3 (fun w' => w'.cell? ⟨b0, o0 + p * 7, none⟩ = some (.int .i64 (lx ls p).kind) ∧ w'.cell? ⟨b0, o0 + p * 7 + 1, none⟩ = some (.int .i64 (lx ls p).W.rows) ∧ w'.cell? ⟨b0, o0 + p * 7 + 2, none⟩ = some (.int .i64 (lx ls p).W.cols) ∧ w'.cell? ⟨b0, o0 + p * 7 + 3, none⟩ = some (.slice a4 n4 k4) ∧ w'.cell? ⟨b0, o0 + p * 7 + 4, none⟩ = some (.int .i64 (lx ls p).B.rows) ∧ w'.cell? ⟨b0, o0 + p * 7 + 5, none⟩ = some (.int .i64 (lx ls p).B.cols) ∧ w'.cell? ⟨b0, o0 + p * 7 + 6, none⟩ = some (.slice a5 n5 k5) ∧ w'.cell? ⟨sb, 0, none⟩ = some (.map (some mb)) ∧ (Instr.lookup 87 (.map (some mb)) (.int .i64 (p : Int)) false).run Try.prog w' = .ok (.agg #[.int .i64 Y.rows, .int .i64 Y.cols, .slice a7 n7 k7]) w') (exact cells7m (t := 89) (by repeat (first | (with_reducible first | exact C7 | refine Cells7.alloc ?_ _ | refine Cells7.drewN ?_ _ | refine Cells7.drew ?_ | (refine Cells7.far ?_ ?_ _; rotate_left 1; (first | (dsimp only; omega) | omega | (simp; omega) | simp)) | refine Cells7.keep ?_ hb9) | exact C7)) (by first | exact hsb'.k1 hb9 | exact hsb'.k) (by repeat (first | (with_reducible first | exact hmb' | refine MapV.alloc ?_ _ | refine MapV.drewN ?_ _ | refine MapV.drew ?_ | (refine MapV.far ?_ ?_ _; rotate_left 1; (first | (dsimp only; omega) | omega | (simp; omega) | simp)) | refine MapV.keep ?_ hb9) | exact hmb')) hmem (by omega)) ((go_at_call 34; go_must (refine (layGo_is (l := lx ls p) (m := Y) (y := Z) ⟨_, _, _, _, _, _, _, _, _, _, rfl, (show IntsAt _ a4 n4 k4 b4 o4 (lx ls p).W.cells from x4.k), (show IntsAt _ a5 n5 k5 b5 o5 (lx ls p).B.cells from x5.k)⟩ (MatAt.mk (show IntsAt _ a7 n7 k7 b7 o7 Y.cells from x7.k)) HGF.out HGY.out).mono ?_); go_must (rintro e w9 ⟨v9, rfl, ⟨a9, n9, k9, b9, o9, rfl, hn9, x9⟩, hb9⟩); (try (refine (fun (P1 : Box w9 (wr.heap.size) [.int .i64 0, .int .i64 0, .slice none 0 0] 28) => ?_) ?_; rotate_left 1; (with_reducible refine Box.keep ?_ hb9); (focus ((repeat (first | (with_reducible refine (Box.new' _ (wr.heap.size) _ _ ?_); (simp; done)) | (with_reducible refine Box.alloc ?_ _) | (with_reducible refine Box.drew ?_) | (with_reducible refine Box.drewN ?_ _))); done)); have P1c := P1.cell; have P1f := P1.thawed; have P1z := P1.lt))))
            all_goals (
             go_wp2_with fail
             go_meet
             have h9l := x9.lt
             have hz9 := hb9.size
             simp at hn9 hz9
             exact ⟨_, a9, n9, k9, b9, o9, rfl, rfl, (by repeat (first | (with_reducible first | (refine (Box.new' _ _ _ _ ?_); (simp; done)) | refine Box.alloc ?_ _ | refine Box.drewN ?_ _ | refine Box.drew ?_ | refine Box.set6z ?_ _ _ _ _ _ _ | refine Box.set3z ?_ _ _ _ | refine Box.fx ?_ _ | refine Box.keep ?_ hb9))), (by repeat (first | (with_reducible first | exact x9 | refine IntsAt.alloc ?_ _ | refine IntsAt.drewN ?_ _ | refine IntsAt.drew ?_ | (refine IntsAt.set ?_ ?_ _; rotate_left 1; (intro h0; have hq0 := hn9 h0; have hq1 := h9l h0; first | (dsimp only; omega) | omega | (simp; omega) | simp))) | exact x9)), fun h => by have := hn9 h; omega, (Below.x1 hb9), by first | (simp [World.setCell]; omega) | omega⟩)
           case rest =>
            obtain ⟨q2, a8, n8, k8, b8, o8, rfl, rfl, P24, x8, hn8, hbc, hzc⟩ := hcut
            have P24 := P24
            have P24c := P24.cell
            have P24f := P24.thawed
            have P24z := P24.lt
            have P24k := lt_add P24z
            have hkpc := hkp.keep hbc
            have hagc := hag.keep hbc
            have hshc := hsh.keep hbc
            have hbwc : Below w.heap.size w wc := (Below.y1 hbc hbr)
            have hnew := hkpc.new (k := k) (by
             rintro (h | h)
             ·rcases h with ⟨h1, h2, h3⟩ | h
              ·exact absurd (mod_step hE G5.out h3 h1) (by omega)
              ·omega
             ·omega)
            clear C7 hsb' hmb' x4 x5 x7 hmem hkp hag hsh
            go_wp2_with fail
            refine (shelfPut_new hshc k Z.rows Z.cols a8 n8 k8 (by omega) hnew (by omega) (by omega)).mono ?_
            rintro e w10 ⟨rfl, hsh2, hf2⟩
            go_wp2
            go_roundw
            case rel =>
             have e1 : ((A + (k + 1 - c - 1) : Nat) : Int) = ((A + (k - c - 1) : Nat) : Int) + 1 := by omega
             have e2 : ((max B (A + (k + 1 - c - 1)) : Nat) : Int) = max ((max B (A + (k - c - 1)) : Nat) : Int) (((A + (k - c - 1) : Nat) : Int) + 1) := by omega
             have hz10 := hf2.size
             refine ⟨k + 1, _, by omega, by omega, by go_num, by rw [e1, e2]; exact hsh2, ?_, hagc.farS hf2 (fun b hb _ => by rintro (e | e); exact hb.1.1 e; exact hb.1.2.1 e) (by rintro (e | e) <;> omega) (by rintro (e | e) <;> omega), Far.toBelow hbwc hf2 (by omega) (by rintro b (e | e) <;> omega), by omega⟩
             refine ((hkpc.farS hf2 (fun b hb _ => by rintro (e | e); exact hb.1 e; exact hb.2.1 e)).put HZ.out (fun hm => by have := hn8 hm; exact ⟨by omega, by omega, by omega, by omega⟩) (x8.farS hf2 (fun hm => by have := hn8 hm; rintro (e | e) <;> omega))).same (fun j => ⟨fun h => ?_, fun h => ?_⟩)
             ·rcases h with (h | h) | h
              ·exact Or.inl h
              ·exact Or.inr ⟨h.1, by omega⟩
              ·exact Or.inr ⟨by omega, by omega⟩
             ·rcases h with h | h
              ·exact Or.inl (Or.inl h)
              ·by_cases e : j = k
               ·exact Or.inr e
               ·exact Or.inl (Or.inr ⟨h.1, by omega⟩)
            case measure => simp [intOf]; omega
          ·obtain rfl : k = d := by omega
           go_wp2
           go_loopw [26] (fun i wx => ∃ (j : Nat), j ≤ k - c ∧ i = .int .i64 ((k : Int) - 1 - j) ∧ ShelfAt wx sb mb ((A + (k - c - 1) : Nat) : Int) ((max B (A + (k - c - 1)) : Nat) : Int) l3 ∧ KeptM ls x (offB sb mb gb ob) (fun j => S2 n E (c + E) j ∨ (c < j ∧ j < k)) wx l3 ∧
            AgSt 28 93 ls (netOuts ls x n) g n (fun b => offB sb mb gb ob b ∧ w.heap.size ≤ b) gb ob (descs n (n - k + j)) wx ∧ Below w.heap.size w wx ∧ ob < wx.heap.size) (fun i _ => (intOf i + 1).toNat)
           case atStart => exact ⟨0, Nat.zero_le _, by simp, hsh, hkp, hag, hbr, hzr⟩
           case round =>
            clear hsh hkp hag hbr hzr
            obtain ⟨j, hj, rfl, hsh, hkp, hag, hbr, hzr⟩ := hrel
            by_cases hjlt : j < k - c
            ·obtain ⟨p, hp⟩ : ∃ p : Nat, k - 1 - j = p := ⟨_, rfl⟩
             have hpi : (k : Int) - 1 - (j : Int) = (p : Int) := by omega
             rw [hpi]
             have hpn : p < n := by omega
             have hpc : c ≤ p ∧ p < k := by omega
             obtain rfl := h00.ptr (by omega)
             have hbl := h00.lt (by omega)
             obtain ⟨a4, n4, k4, b4, o4, a5, n5, k5, b5, o5, c0, c1, c2, c3, c4, c5, c6, x4, x5⟩ := lay_cells (h00.keep hbr) hpn
             obtain ⟨Y, hY⟩ : ∃ Y, netTo ls x p = Y := ⟨_, rfl⟩
             obtain ⟨L, hL⟩ : ∃ L, lx ls p = L := ⟨_, rfl⟩
             obtain ⟨a7, n7, k7, b7, o7, hmem, hF7, x7⟩ := hkp.get (k := p) (by
              rcases Nat.lt_or_ge c p with h | h
              ·exact Or.inr ⟨h, hpc.2⟩
              ·exact Or.inl (Or.inl ⟨by omega, hpn, by rw [show p = c by omega]; exact G5.out⟩)) hY
             obtain ⟨av, mv, cv, bv, ov, BG, yg, hFg⟩ := hag.cur
             obtain ⟨cs, Bo, hcs, hcells⟩ := hag.outs
             obtain ⟨H, hH⟩ : ∃ H, (gone ls (netOuts ls x n) g (descs n (n - k + j))).1 = H := ⟨_, rfl⟩
             rw [hH] at BG yg
             rw [hL] at c0 c1 c2 c4 c5 x4 x5
             have hsb' := hsh.box
             have hmb' := hsh.map
             have hsl := hsb'.lt
             have hml := hmb'.lt
             have hgl := BG.lt
             have C7 : Cells7 wr b0 (o0 + p * 7) (.int .i64 L.kind) (.int .i64 L.W.rows) (.int .i64 L.W.cols) (.slice a4 n4 k4) (.int .i64 L.B.rows) (.int .i64 L.B.cols) (.slice a5 n5 k5) := ⟨c0, c1, c2, c3, c4, c5, c6⟩
             have hi2 : (p : Int) < (n : Int) := by omega
             have hi3 : (0 : Int) ≤ (p : Int) := by omega
             have hi4 : (c : Int) ≤ (p : Int) := by omega
             have hws := hbr.size
             have HP := Lib.hid hp
             have HY := Lib.hid hY
             have HL := Lib.hid hL
             have HH := Lib.hid hH
             clear c0 c1 c2 c3 c4 c5 c6 hpi hY hL hH hp
             go_wp2_with fail
             go_cut [27, 28, 29] (fun s27 s28 s29 wx => ∃ p13 p14 a9 n9 k9 b9 o9 aA nA kA bA oA aB nB kB bB oB, s27 = .pointer (some ⟨p13, 0, none⟩) ∧ s28 = .pointer (some ⟨p14, 0, none⟩) ∧ s29 = errV (L.backFault Y H) ∧ Box wx p13 [.int .i64 (orNone (L.backFault Y H) (L.back Y H)).rows, .int .i64 (orNone (L.backFault Y H) (L.back Y H)).cols, .slice a9 n9 k9] 28 ∧ IntsAt wx a9 n9 k9 b9 o9 (orNone (L.backFault Y H) (L.back Y H)).cells ∧ (0 < n9 → wr.heap.size ≤ b9) ∧
              Box wx p14 [.int .i64 (orGrd (L.backFault Y H) (L.grad Y H)).W.rows, .int .i64 (orGrd (L.backFault Y H) (L.grad Y H)).W.cols, .slice aA nA kA, .int .i64 (orGrd (L.backFault Y H) (L.grad Y H)).B.rows, .int .i64 (orGrd (L.backFault Y H) (L.grad Y H)).B.cols, .slice aB nB kB] 93 ∧ IntsAt wx aA nA kA bA oA (orGrd (L.backFault Y H) (L.grad Y H)).W.cells ∧ (0 < nA → wr.heap.size ≤ bA) ∧ IntsAt wx aB nB kB bB oB (orGrd (L.backFault Y H) (L.grad Y H)).B.cells ∧ (0 < nB → wr.heap.size ≤ bB) ∧ Below wr.heap.size wr wx ∧ wr.heap.size ≤ p13 ∧ wr.heap.size ≤ p14 ∧ p13 ≠ p14)
             case first =>
              refine wp_region_held_drew (S := fun w' => w'.cell? ⟨b0, o0 + p * 7, none⟩ = some (.int .i64 L.kind) ∧ w'.cell? ⟨b0, o0 + p * 7 + 1, none⟩ = some (.int .i64 L.W.rows) ∧ w'.cell? ⟨b0, o0 + p * 7 + 2, none⟩ = some (.int .i64 L.W.cols) ∧ w'.cell? ⟨b0, o0 + p * 7 + 3, none⟩ = some (.slice a4 n4 k4) ∧ w'.cell? ⟨b0, o0 + p * 7 + 4, none⟩ = some (.int .i64 L.B.rows) ∧ w'.cell? ⟨b0, o0 + p * 7 + 5, none⟩ = some (.int .i64 L.B.cols) ∧ w'.cell? ⟨b0, o0 + p * 7 + 6, none⟩ = some (.slice a5 n5 k5) ∧ w'.cell? ⟨sb, 0, none⟩ = some (.map (some mb)) ∧ (Instr.lookup 87 (.map (some mb)) (.int .i64 (p : Int)) false).run Try.prog w' = .ok (.agg #[.int .i64 Y.rows, .int .i64 Y.cols, .slice a7 n7 k7]) w' ∧ w'.cell? ⟨gb, 0, none⟩ = some (.int .i64 H.rows) ∧ w'.cell? ⟨gb, 1, none⟩ = some (.int .i64 H.cols) ∧ w'.cell? ⟨gb, 2, none⟩ = some (.slice av mv cv)) (by kernel_rfl) ?_ (fun hHeld => ?_)
              ·exact cells7g (t := 89) (tm := 28) (by repeat (first | (with_reducible first | exact C7 | refine Cells7.alloc ?_ _ | refine Cells7.drewN ?_ _ | refine Cells7.drew ?_ | (refine Cells7.far ?_ ?_ _; rotate_left 1; (first | (dsimp only; omega) | omega | (simp; omega) | simp))) | exact C7)) hsb'.k (by repeat (first | (with_reducible first | exact hmb' | refine MapV.alloc ?_ _ | refine MapV.drewN ?_ _ | refine MapV.drew ?_ | (refine MapV.far ?_ ?_ _; rotate_left 1; (first | (dsimp only; omega) | omega | (simp; omega) | simp))) | exact hmb')) hmem (by omega) BG.k
              refine held_take (i := 0) (v := ?_) rfl (by kernel_rfl) (by kernel_rfl) (by kernel_rfl) (fun _ _ _ h => h) (Or.inl ⟨by rfl, ?_⟩) (by assumption) ?_
              rotate_left 1
              ·intro w hSw
               (try dsimp only at hSw)
               go_simp
               (try with_reducible rfl)
              (try simp only [Act.put, List.setIfInBounds_toArray, List.set_cons_zero, List.set_cons_succ])
              refine held_take (i := 1) (v := ?_) rfl (by kernel_rfl) (by kernel_rfl) (by kernel_rfl) (fun _ _ _ h => h) (Or.inl ⟨by rfl, ?_⟩) (by assumption) ?_
              rotate_left 1
              ·intro w hSw
               (try dsimp only at hSw)
               go_simp
               (try with_reducible rfl)
              (try simp only [Act.put, List.setIfInBounds_toArray, List.set_cons_zero, List.set_cons_succ])
              refine held_take (i := 2) (v := ?_) rfl (by kernel_rfl) (by kernel_rfl) (by kernel_rfl) (fun _ _ _ h => h) (Or.inl ⟨by rfl, ?_⟩) (by assumption) ?_
              rotate_left 1
              ·intro w hSw
               (try dsimp only at hSw)
               go_simp
               (try with_reducible rfl)
              (try simp only [Act.put, List.setIfInBounds_toArray, List.set_cons_zero, List.set_cons_succ])
              refine held_take (i := 3) (v := ?_) rfl (by kernel_rfl) (by kernel_rfl) (by kernel_rfl) (fun _ _ _ h => h) (Or.inl ⟨by rfl, ?_⟩) (by assumption) ?_
              rotate_left 1
              ·intro w hSw
               (try dsimp only at hSw)
               go_simp
               (try with_reducible rfl)
              (try simp only [Act.put, List.setIfInBounds_toArray, List.set_cons_zero, List.set_cons_succ])
              refine held_take (i := 4) (v := ?_) rfl (by kernel_rfl) (by kernel_rfl) (by kernel_rfl) (fun _ _ _ h => h) (Or.inl ⟨by rfl, ?_⟩) (by assumption) ?_
              rotate_left 1
              ·intro w hSw
               (try dsimp only at hSw)
               go_simp
               (try with_reducible rfl)
              (try simp only [Act.put, List.setIfInBounds_toArray, List.set_cons_zero, List.set_cons_succ])
              refine held_take (i := 5) (v := ?_) rfl (by kernel_rfl) (by kernel_rfl) (by kernel_rfl) (fun _ _ _ h => h) (Or.inl ⟨by rfl, ?_⟩) (by assumption) ?_
              rotate_left 1
              ·intro w hSw
               (try dsimp only at hSw)
               go_simp
               (try with_reducible rfl)
              (try simp only [Act.put, List.setIfInBounds_toArray, List.set_cons_zero, List.set_cons_succ])
              refine held_take (i := 6) (v := ?_) rfl (by kernel_rfl) (by kernel_rfl) (by kernel_rfl) (fun _ _ _ h => h) (Or.inl ⟨by rfl, ?_⟩) (by assumption) ?_
              rotate_left 1
              ·intro w hSw
               (try dsimp only at hSw)
               go_simp
               (try with_reducible rfl)
              (try simp only [Act.put, List.setIfInBounds_toArray, List.set_cons_zero, List.set_cons_succ])
              refine held_take (i := 7) (v := ?_) rfl (by kernel_rfl) (by kernel_rfl) (by kernel_rfl) (fun _ _ _ h => h) (Or.inl ⟨by rfl, ?_⟩) (by assumption) ?_
              rotate_left 1
              ·intro w hSw
               (try dsimp only at hSw)
               go_simp
               (try with_reducible rfl)
              (try simp only [Act.put, List.setIfInBounds_toArray, List.set_cons_zero, List.set_cons_succ])
              refine held_take (i := 8) (v := ?_) rfl (by kernel_rfl) (by kernel_rfl) (by kernel_rfl) (fun _ _ _ h => h) (Or.inl ⟨by rfl, ?_⟩) (by assumption) ?_
              rotate_left 1
              ·intro w hSw
               (try dsimp only at hSw)
               go_simp
               (try with_reducible rfl)
              (try simp only [Act.put, List.setIfInBounds_toArray, List.set_cons_zero, List.set_cons_succ])
              refine held_take (i := 9) (v := ?_) rfl (by kernel_rfl) (by kernel_rfl) (by kernel_rfl) (fun _ _ _ h => h) (Or.inl ⟨by rfl, ?_⟩) (by assumption) ?_
              rotate_left 1
              ·intro w hSw
               (try dsimp only at hSw)
               go_simp
               (try with_reducible rfl)
              (try simp only [Act.put, List.setIfInBounds_toArray, List.set_cons_zero, List.set_cons_succ])
              refine held_take (i := 10) (v := ?_) rfl (by kernel_rfl) (by kernel_rfl) (by kernel_rfl) (fun _ _ _ h => h) (Or.inl ⟨by rfl, ?_⟩) (by assumption) ?_
              rotate_left 1
              ·intro w hSw
               (try dsimp only at hSw)
               go_simp
               (try with_reducible rfl)
              (try simp only [Act.put, List.setIfInBounds_toArray, List.set_cons_zero, List.set_cons_succ])
              refine wpAnyH_ready (rs := [11, 16, 17]) (by kernel_rfl) (by simp) ?_
              refine held_cons rfl (fun K hK => ?_) ?_
              ·go_simp
               refine (layBack_any L Y H _ _ _ _ ⟨_, _, _, _, _, _, _, _, _, _, rfl, (show IntsAt _ a4 n4 k4 b4 o4 L.W.cells from x4.k), (show IntsAt _ a5 n5 k5 b5 o5 L.B.cells from x5.k)⟩ (MatAt.mk (show IntsAt _ a7 n7 k7 b7 o7 Y.cells from x7.k)) (MatAt.mk (show IntsAt _ av mv cv bv ov H.cells from yg.k))).mono ?_
               rintro e w9 ⟨v9, d9, rfl, ⟨a9, n9, k9, b9, o9, rfl, hn9, x9⟩, ⟨aA, nA, kA, bA, oA, aB, nB, kB, bB, oB, rfl, hnA, xA, hnB, xB⟩, hb9⟩
               go_wp2_with fail
               refine hK.out _ _ ?_ (fun hHeld => ?_)
               ·exact cells7g (t := 89) (tm := 28) (by repeat (first | (with_reducible first | exact C7 | refine Cells7.alloc ?_ _ | refine Cells7.drewN ?_ _ | refine Cells7.drew ?_ | (refine Cells7.far ?_ ?_ _; rotate_left 1; (first | (dsimp only; omega) | omega | (simp; omega) | simp)) | refine Cells7.keep ?_ hb9) | exact C7)) (by first | exact hsb'.k1 hb9 | exact hsb'.k) (by repeat (first | (with_reducible first | exact hmb' | refine MapV.alloc ?_ _ | refine MapV.drewN ?_ _ | refine MapV.drew ?_ | (refine MapV.far ?_ ?_ _; rotate_left 1; (first | (dsimp only; omega) | omega | (simp; omega) | simp)) | refine MapV.keep ?_ hb9) | exact hmb')) hmem (by omega) (by first | exact BG.k1 hb9 | exact BG.k)
               clear hK K
               try simp only [Act.put, List.setIfInBounds_toArray, List.set_cons_zero, List.set_cons_succ]
               refine held_take (i := 12) (v := ?_) rfl (by kernel_rfl) (by kernel_rfl) (by kernel_rfl) (fun _ _ _ h => h) (Or.inl ⟨by rfl, ?_⟩) (by assumption) ?_
               rotate_left 1
               ·intro w hSw
                (try dsimp only at hSw)
                go_simp
                (try with_reducible rfl)
               (try simp only [Act.put, List.setIfInBounds_toArray, List.set_cons_zero, List.set_cons_succ])
               refine held_take (i := 13) (v := ?_) rfl (by kernel_rfl) (by kernel_rfl) (by kernel_rfl) (fun _ _ _ h => h) (Or.inl ⟨by rfl, ?_⟩) (by assumption) ?_
               rotate_left 1
               ·intro w hSw
                (try dsimp only at hSw)
                go_simp
                (try with_reducible rfl)
               (try simp only [Act.put, List.setIfInBounds_toArray, List.set_cons_zero, List.set_cons_succ])
               refine held_take (i := 14) (v := ?_) rfl (by kernel_rfl) (by kernel_rfl) (by kernel_rfl) (fun _ _ _ h => h) (Or.inl ⟨by rfl, ?_⟩) (by assumption) ?_
               rotate_left 1
               ·intro w hSw
                (try dsimp only at hSw)
                go_simp
                (try with_reducible rfl)
               (try simp only [Act.put, List.setIfInBounds_toArray, List.set_cons_zero, List.set_cons_succ])
               refine held_take (i := 15) (v := ?_) rfl (by kernel_rfl) (by kernel_rfl) (by kernel_rfl) (fun _ _ _ h => h) (Or.inl ⟨by rfl, ?_⟩) (by assumption) ?_
               rotate_left 1
               ·intro w hSw
                (try dsimp only at hSw)
                go_simp
                (try with_reducible rfl)
               (try simp only [Act.put, List.setIfInBounds_toArray, List.set_cons_zero, List.set_cons_succ])
               refine wpAnyH_ready (rs := [16, 17]) (by kernel_rfl) (by simp) ?_
               refine held_cons rfl (fun K hK => ?_) ?_
               ·go_simp
                refine hK.out _ _ ?_ (fun hHeld => ?_)
                ·exact cells7g (t := 89) (tm := 28) (by repeat (first | (with_reducible first | exact C7 | refine Cells7.alloc ?_ _ | refine Cells7.drewN ?_ _ | refine Cells7.drew ?_ | (refine Cells7.far ?_ ?_ _; rotate_left 1; (first | (dsimp only; omega) | omega | (simp; omega) | simp)) | refine Cells7.keep ?_ hb9) | exact C7)) (by first | exact hsb'.k1 hb9 | exact hsb'.k) (by repeat (first | (with_reducible first | exact hmb' | refine MapV.alloc ?_ _ | refine MapV.drewN ?_ _ | refine MapV.drew ?_ | (refine MapV.far ?_ ?_ _; rotate_left 1; (first | (dsimp only; omega) | omega | (simp; omega) | simp)) | refine MapV.keep ?_ hb9) | exact hmb')) hmem (by omega) (by first | exact BG.k1 hb9 | exact BG.k)
                clear hK K
                try simp only [Act.put, List.setIfInBounds_toArray, List.set_cons_zero, List.set_cons_succ]
                refine wpAnyH_ready (rs := [17]) (by kernel_rfl) (by simp) ?_
                refine held_cons rfl (fun K hK => ?_) ?_
                ·go_simp
                 refine hK.out _ _ ?_ (fun hHeld => ?_)
                 ·exact cells7g (t := 89) (tm := 28) (by repeat (first | (with_reducible first | exact C7 | refine Cells7.alloc ?_ _ | refine Cells7.drewN ?_ _ | refine Cells7.drew ?_ | (refine Cells7.far ?_ ?_ _; rotate_left 1; (first | (dsimp only; omega) | omega | (simp; omega) | simp)) | refine Cells7.keep ?_ hb9) | exact C7)) (by first | exact hsb'.k1 hb9 | exact hsb'.k) (by repeat (first | (with_reducible first | exact hmb' | refine MapV.alloc ?_ _ | refine MapV.drewN ?_ _ | refine MapV.drew ?_ | (refine MapV.far ?_ ?_ _; rotate_left 1; (first | (dsimp only; omega) | omega | (simp; omega) | simp)) | refine MapV.keep ?_ hb9) | exact hmb')) hmem (by omega) (by first | exact BG.k1 hb9 | exact BG.k)
                 clear hK K
                 try simp only [Act.put, List.setIfInBounds_toArray, List.set_cons_zero, List.set_cons_succ]
                 refine wpAnyH_ready (rs := [18]) (by kernel_rfl) (by simp) ?_
                 refine held_cons rfl (fun K hK => ?_) ?_
                 ·go_simp
                  refine hK.out _ _ ?_ (fun hHeld => ?_)
                  ·exact cells7g (t := 89) (tm := 28) (by repeat (first | (with_reducible first | exact C7 | refine Cells7.alloc ?_ _ | refine Cells7.drewN ?_ _ | refine Cells7.drew ?_ | (refine Cells7.far ?_ ?_ _; rotate_left 1; (first | (dsimp only; omega) | omega | (simp; omega) | simp)) | refine Cells7.keep ?_ hb9) | exact C7)) (by first | exact hsb'.k1 hb9 | exact hsb'.k) (by repeat (first | (with_reducible first | exact hmb' | refine MapV.alloc ?_ _ | refine MapV.drewN ?_ _ | refine MapV.drew ?_ | (refine MapV.far ?_ ?_ _; rotate_left 1; (first | (dsimp only; omega) | omega | (simp; omega) | simp)) | refine MapV.keep ?_ hb9) | exact hmb')) hmem (by omega) (by first | exact BG.k1 hb9 | exact BG.k)
                  clear hK K
                  try simp only [Act.put, List.setIfInBounds_toArray, List.set_cons_zero, List.set_cons_succ]
                  refine wpAnyH_ready (rs := [19]) (by kernel_rfl) (by simp) ?_
                  refine held_cons rfl (fun K hK => ?_) ?_
                  ·go_simp
                   refine hK.out _ _ ?_ (fun hHeld => ?_)
                   ·exact cells7g (t := 89) (tm := 28) (by repeat (first | (with_reducible first | exact C7 | refine Cells7.alloc ?_ _ | refine Cells7.drewN ?_ _ | refine Cells7.drew ?_ | (refine Cells7.far ?_ ?_ _; rotate_left 1; (first | (dsimp only; omega) | omega | (simp; omega) | simp)) | refine Cells7.keep ?_ hb9) | exact C7)) (by first | exact hsb'.k1 hb9 | exact hsb'.k) (by repeat (first | (with_reducible first | exact hmb' | refine MapV.alloc ?_ _ | refine MapV.drewN ?_ _ | refine MapV.drew ?_ | (refine MapV.far ?_ ?_ _; rotate_left 1; (first | (dsimp only; omega) | omega | (simp; omega) | simp)) | refine MapV.keep ?_ hb9) | exact hmb')) hmem (by omega) (by first | exact BG.k1 hb9 | exact BG.k)
                   clear hK K
                   try simp only [Act.put, List.setIfInBounds_toArray, List.set_cons_zero, List.set_cons_succ]
                   refine held_take (i := 20) (v := ?_) rfl (by kernel_rfl) (by kernel_rfl) (by kernel_rfl) (fun _ _ _ h => h) (Or.inl ⟨by rfl, ?_⟩) (by assumption) ?_
                   rotate_left 1
                   ·intro w hSw
                    (try dsimp only at hSw)
                    go_simp
                    (try with_reducible rfl)
                   (try simp only [Act.put, List.setIfInBounds_toArray, List.set_cons_zero, List.set_cons_succ])
                   refine wpAnyH_done (by kernel_rfl) ?_ _
                   (try go_wp2_with fail)
                   go_meet
                   have h9l := x9.lt
                   have hAl := xA.lt
                   have hBl := xB.lt
                   have hz9 : wr.heap.size ≤ w9.heap.size := (show Below wr.heap.size wr w9 from (Below.x1 hb9)).size
                   have hm9 : 0 < n9 → wr.heap.size ≤ b9 := fun h => by have := hn9 h; simp at this; omega
                   have hmA : 0 < nA → wr.heap.size ≤ bA := fun h => by have := hnA h; simp at this; omega
                   have hmB : 0 < nB → wr.heap.size ≤ bB := fun h => by have := hnB h; simp at this; omega
                   simp at hn9 hnA hnB
                   refine ⟨_, _, a9, n9, k9, b9, o9, aA, nA, kA, bA, oA, aB, nB, kB, bB, oB, rfl, rfl, rfl, ?_, ?_, hm9, ?_, ?_, hmA, ?_, hmB, ?_, ?_, ?_, ?_⟩
                   ·exact (by repeat (first | (with_reducible first | exact P13 | (refine (Box.new' _ _ _ _ ?_); (simp; done)) | refine Box.alloc ?_ _ | refine Box.drewN ?_ _ | refine Box.drew ?_ | refine Box.set6z ?_ _ _ _ _ _ _ | refine Box.set3z ?_ _ _ _ | refine Box.fx ?_ _ | refine Box.keep ?_ hb9) | exact P13))
                   ·exact (by repeat (first | (with_reducible first | exact x9 | refine IntsAt.alloc ?_ _ | refine IntsAt.drewN ?_ _ | refine IntsAt.drew ?_ | (refine IntsAt.set ?_ ?_ _; rotate_left 1; (intro h0; have hq0 := hn9 h0; have hq1 := h9l h0; first | (dsimp only; omega) | omega | (simp; omega) | simp))) | exact x9))
                   ·exact (by repeat (first | (with_reducible first | exact P14 | (refine (Box.new' _ _ _ _ ?_); (simp; done)) | refine Box.alloc ?_ _ | refine Box.drewN ?_ _ | refine Box.drew ?_ | refine Box.set6z ?_ _ _ _ _ _ _ | refine Box.set3z ?_ _ _ _ | refine Box.fx ?_ _ | refine Box.keep ?_ hb9) | exact P14))
                   ·exact (by repeat (first | (with_reducible first | exact xA | refine IntsAt.alloc ?_ _ | refine IntsAt.drewN ?_ _ | refine IntsAt.drew ?_ | (refine IntsAt.set ?_ ?_ _; rotate_left 1; (intro h0; have hq0 := hnA h0; have hq1 := hAl h0; first | (dsimp only; omega) | omega | (simp; omega) | simp))) | exact xA))
                   ·exact (by repeat (first | (with_reducible first | exact xB | refine IntsAt.alloc ?_ _ | refine IntsAt.drewN ?_ _ | refine IntsAt.drew ?_ | (refine IntsAt.set ?_ ?_ _; rotate_left 1; (intro h0; have hq0 := hnB h0; have hq1 := hBl h0; first | (dsimp only; omega) | omega | (simp; omega) | simp))) | exact xB))
                   ·exact (Below.x1 hb9)
                   ·(first | exact Nat.le_refl _ | omega)
                   ·(first | exact Nat.le_refl _ | omega)
                   ·omega
                  exact AllReadyH.nil
                 exact AllReadyH.nil
                exact AllReadyH.nil
               refine held_cons rfl (fun K hK => ?_) ?_
               ·go_simp
                refine hK.out _ _ ?_ (fun hHeld => ?_)
                ·exact cells7g (t := 89) (tm := 28) (by repeat (first | (with_reducible first | exact C7 | refine Cells7.alloc ?_ _ | refine Cells7.drewN ?_ _ | refine Cells7.drew ?_ | (refine Cells7.far ?_ ?_ _; rotate_left 1; (first | (dsimp only; omega) | omega | (simp; omega) | simp)) | refine Cells7.keep ?_ hb9) | exact C7)) (by first | exact hsb'.k1 hb9 | exact hsb'.k) (by repeat (first | (with_reducible first | exact hmb' | refine MapV.alloc ?_ _ | refine MapV.drewN ?_ _ | refine MapV.drew ?_ | (refine MapV.far ?_ ?_ _; rotate_left 1; (first | (dsimp only; omega) | omega | (simp; omega) | simp)) | refine MapV.keep ?_ hb9) | exact hmb')) hmem (by omega) (by first | exact BG.k1 hb9 | exact BG.k)
                clear hK K
                try simp only [Act.put, List.setIfInBounds_toArray, List.set_cons_zero, List.set_cons_succ]
                refine wpAnyH_ready (rs := [16]) (by kernel_rfl) (by simp) ?_
                refine held_cons rfl (fun K hK => ?_) ?_
                ·go_simp
                 refine hK.out _ _ ?_ (fun hHeld => ?_)
                 ·exact cells7g (t := 89) (tm := 28) (by repeat (first | (with_reducible first | exact C7 | refine Cells7.alloc ?_ _ | refine Cells7.drewN ?_ _ | refine Cells7.drew ?_ | (refine Cells7.far ?_ ?_ _; rotate_left 1; (first | (dsimp only; omega) | omega | (simp; omega) | simp)) | refine Cells7.keep ?_ hb9) | exact C7)) (by first | exact hsb'.k1 hb9 | exact hsb'.k) (by repeat (first | (with_reducible first | exact hmb' | refine MapV.alloc ?_ _ | refine MapV.drewN ?_ _ | refine MapV.drew ?_ | (refine MapV.far ?_ ?_ _; rotate_left 1; (first | (dsimp only; omega) | omega | (simp; omega) | simp)) | refine MapV.keep ?_ hb9) | exact hmb')) hmem (by omega) (by first | exact BG.k1 hb9 | exact BG.k)
                 clear hK K
                 try simp only [Act.put, List.setIfInBounds_toArray, List.set_cons_zero, List.set_cons_succ]
                 refine wpAnyH_ready (rs := [18]) (by kernel_rfl) (by simp) ?_
                 refine held_cons rfl (fun K hK => ?_) ?_
                 ·go_simp
                  refine hK.out _ _ ?_ (fun hHeld => ?_)
                  ·exact cells7g (t := 89) (tm := 28) (by repeat (first | (with_reducible first | exact C7 | refine Cells7.alloc ?_ _ | refine Cells7.drewN ?_ _ | refine Cells7.drew ?_ | (refine Cells7.far ?_ ?_ _; rotate_left 1; (first | (dsimp only; omega) | omega | (simp; omega) | simp)) | refine Cells7.keep ?_ hb9) | exact C7)) (by first | exact hsb'.k1 hb9 | exact hsb'.k) (by repeat (first | (with_reducible first | exact hmb' | refine MapV.alloc ?_ _ | refine MapV.drewN ?_ _ | refine MapV.drew ?_ | (refine MapV.far ?_ ?_ _; rotate_left 1; (first | (dsimp only; omega) | omega | (simp; omega) | simp)) | refine MapV.keep ?_ hb9) | exact hmb')) hmem (by omega) (by first | exact BG.k1 hb9 | exact BG.k)
                  clear hK K
                  try simp only [Act.put, List.setIfInBounds_toArray, List.set_cons_zero, List.set_cons_succ]
                  refine wpAnyH_ready (rs := [19]) (by kernel_rfl) (by simp) ?_
                  refine held_cons rfl (fun K hK => ?_) ?_
                  ·go_simp
                   refine hK.out _ _ ?_ (fun hHeld => ?_)
                   ·exact cells7g (t := 89) (tm := 28) (by repeat (first | (with_reducible first | exact C7 | refine Cells7.alloc ?_ _ | refine Cells7.drewN ?_ _ | refine Cells7.drew ?_ | (refine Cells7.far ?_ ?_ _; rotate_left 1; (first | (dsimp only; omega) | omega | (simp; omega) | simp)) | refine Cells7.keep ?_ hb9) | exact C7)) (by first | exact hsb'.k1 hb9 | exact hsb'.k) (by repeat (first | (with_reducible first | exact hmb' | refine MapV.alloc ?_ _ | refine MapV.drewN ?_ _ | refine MapV.drew ?_ | (refine MapV.far ?_ ?_ _; rotate_left 1; (first | (dsimp only; omega) | omega | (simp; omega) | simp)) | refine MapV.keep ?_ hb9) | exact hmb')) hmem (by omega) (by first | exact BG.k1 hb9 | exact BG.k)
                   clear hK K
                   try simp only [Act.put, List.setIfInBounds_toArray, List.set_cons_zero, List.set_cons_succ]
                   refine held_take (i := 20) (v := ?_) rfl (by kernel_rfl) (by kernel_rfl) (by kernel_rfl) (fun _ _ _ h => h) (Or.inl ⟨by rfl, ?_⟩) (by assumption) ?_
                   rotate_left 1
                   ·intro w hSw
                    (try dsimp only at hSw)
                    go_simp
                    (try with_reducible rfl)
                   (try simp only [Act.put, List.setIfInBounds_toArray, List.set_cons_zero, List.set_cons_succ])
                   refine wpAnyH_done (by kernel_rfl) ?_ _
                   (try go_wp2_with fail)
                   go_meet
                   have h9l := x9.lt
                   have hAl := xA.lt
                   have hBl := xB.lt
                   have hz9 : wr.heap.size ≤ w9.heap.size := (show Below wr.heap.size wr w9 from (Below.x1 hb9)).size
                   have hm9 : 0 < n9 → wr.heap.size ≤ b9 := fun h => by have := hn9 h; simp at this; omega
                   have hmA : 0 < nA → wr.heap.size ≤ bA := fun h => by have := hnA h; simp at this; omega
                   have hmB : 0 < nB → wr.heap.size ≤ bB := fun h => by have := hnB h; simp at this; omega
                   simp at hn9 hnA hnB
                   refine ⟨_, _, a9, n9, k9, b9, o9, aA, nA, kA, bA, oA, aB, nB, kB, bB, oB, rfl, rfl, rfl, ?_, ?_, hm9, ?_, ?_, hmA, ?_, hmB, ?_, ?_, ?_, ?_⟩
                   ·exact (by repeat (first | (with_reducible first | exact P13 | (refine (Box.new' _ _ _ _ ?_); (simp; done)) | refine Box.alloc ?_ _ | refine Box.drewN ?_ _ | refine Box.drew ?_ | refine Box.set6z ?_ _ _ _ _ _ _ | refine Box.set3z ?_ _ _ _ | refine Box.fx ?_ _ | refine Box.keep ?_ hb9) | exact P13))
                   ·exact (by repeat (first | (with_reducible first | exact x9 | refine IntsAt.alloc ?_ _ | refine IntsAt.drewN ?_ _ | refine IntsAt.drew ?_ | (refine IntsAt.set ?_ ?_ _; rotate_left 1; (intro h0; have hq0 := hn9 h0; have hq1 := h9l h0; first | (dsimp only; omega) | omega | (simp; omega) | simp))) | exact x9))
                   ·exact (by repeat (first | (with_reducible first | exact P14 | (refine (Box.new' _ _ _ _ ?_); (simp; done)) | refine Box.alloc ?_ _ | refine Box.drewN ?_ _ | refine Box.drew ?_ | refine Box.set6z ?_ _ _ _ _ _ _ | refine Box.set3z ?_ _ _ _ | refine Box.fx ?_ _ | refine Box.keep ?_ hb9) | exact P14))
                   ·exact (by repeat (first | (with_reducible first | exact xA | refine IntsAt.alloc ?_ _ | refine IntsAt.drewN ?_ _ | refine IntsAt.drew ?_ | (refine IntsAt.set ?_ ?_ _; rotate_left 1; (intro h0; have hq0 := hnA h0; have hq1 := hAl h0; first | (dsimp only; omega) | omega | (simp; omega) | simp))) | exact xA))
                   ·exact (by repeat (first | (with_reducible first | exact xB | refine IntsAt.alloc ?_ _ | refine IntsAt.drewN ?_ _ | refine IntsAt.drew ?_ | (refine IntsAt.set ?_ ?_ _; rotate_left 1; (intro h0; have hq0 := hnB h0; have hq1 := hBl h0; first | (dsimp only; omega) | omega | (simp; omega) | simp))) | exact xB))
                   ·exact (Below.x1 hb9)
                   ·(first | exact Nat.le_refl _ | omega)
                   ·(first | exact Nat.le_refl _ | omega)
                   ·omega
                  exact AllReadyH.nil
                 exact AllReadyH.nil
                exact AllReadyH.nil
               exact AllReadyH.nil
              refine held_cons rfl (fun K hK => ?_) ?_
              ·go_simp
               refine hK.out _ _ ?_ (fun hHeld => ?_)
               ·exact cells7g (t := 89) (tm := 28) (by repeat (first | (with_reducible first | exact C7 | refine Cells7.alloc ?_ _ | refine Cells7.drewN ?_ _ | refine Cells7.drew ?_ | (refine Cells7.far ?_ ?_ _; rotate_left 1; (first | (dsimp only; omega) | omega | (simp; omega) | simp))) | exact C7)) hsb'.k (by repeat (first | (with_reducible first | exact hmb' | refine MapV.alloc ?_ _ | refine MapV.drewN ?_ _ | refine MapV.drew ?_ | (refine MapV.far ?_ ?_ _; rotate_left 1; (first | (dsimp only; omega) | omega | (simp; omega) | simp))) | exact hmb')) hmem (by omega) BG.k
               clear hK K
               try simp only [Act.put, List.setIfInBounds_toArray, List.set_cons_zero, List.set_cons_succ]
               refine wpAnyH_ready (rs := [11, 17]) (by kernel_rfl) (by simp) ?_
               refine held_cons rfl (fun K hK => ?_) ?_
               ·go_simp
                refine (layBack_any L Y H _ _ _ _ ⟨_, _, _, _, _, _, _, _, _, _, rfl, (show IntsAt _ a4 n4 k4 b4 o4 L.W.cells from x4.k), (show IntsAt _ a5 n5 k5 b5 o5 L.B.cells from x5.k)⟩ (MatAt.mk (show IntsAt _ a7 n7 k7 b7 o7 Y.cells from x7.k)) (MatAt.mk (show IntsAt _ av mv cv bv ov H.cells from yg.k))).mono ?_
                rintro e w9 ⟨v9, d9, rfl, ⟨a9, n9, k9, b9, o9, rfl, hn9, x9⟩, ⟨aA, nA, kA, bA, oA, aB, nB, kB, bB, oB, rfl, hnA, xA, hnB, xB⟩, hb9⟩
                have P13 : Box w9 (wr.heap.size) [.int .i64 0, .int .i64 0, .slice none 0 0] 28 := Box.keep Box.x0 hb9
                have P13c := P13.cell
                have P13f := P13.thawed
                have P13z := P13.lt
                have P13k := lt_add P13z
                go_wp2_with fail
                refine hK.out _ _ ?_ (fun hHeld => ?_)
                ·exact cells7g (t := 89) (tm := 28) (by repeat (first | (with_reducible first | exact C7 | refine Cells7.alloc ?_ _ | refine Cells7.drewN ?_ _ | refine Cells7.drew ?_ | (refine Cells7.far ?_ ?_ _; rotate_left 1; (first | (dsimp only; omega) | omega | (simp; omega) | simp)) | refine Cells7.keep ?_ hb9) | exact C7)) (by first | exact hsb'.k1 hb9 | exact hsb'.k) (by repeat (first | (with_reducible first | exact hmb' | refine MapV.alloc ?_ _ | refine MapV.drewN ?_ _ | refine MapV.drew ?_ | (refine MapV.far ?_ ?_ _; rotate_left 1; (first | (dsimp only; omega) | omega | (simp; omega) | simp)) | refine MapV.keep ?_ hb9) | exact hmb')) hmem (by omega) (by first | exact BG.k1 hb9 | exact BG.k)
                clear hK K
                try simp only [Act.put, List.setIfInBounds_toArray, List.set_cons_zero, List.set_cons_succ]
                refine held_take (i := 12) (v := ?_) rfl (by kernel_rfl) (by kernel_rfl) (by kernel_rfl) (fun _ _ _ h => h) (Or.inl ⟨by rfl, ?_⟩) (by assumption) ?_
                rotate_left 1
                ·intro w hSw
                 (try dsimp only at hSw)
                 go_simp
                 (try with_reducible rfl)
                (try simp only [Act.put, List.setIfInBounds_toArray, List.set_cons_zero, List.set_cons_succ])
                refine held_take (i := 13) (v := ?_) rfl (by kernel_rfl) (by kernel_rfl) (by kernel_rfl) (fun _ _ _ h => h) (Or.inl ⟨by rfl, ?_⟩) (by assumption) ?_
                rotate_left 1
                ·intro w hSw
                 (try dsimp only at hSw)
                 go_simp
                 (try with_reducible rfl)
                (try simp only [Act.put, List.setIfInBounds_toArray, List.set_cons_zero, List.set_cons_succ])
                refine held_take (i := 14) (v := ?_) rfl (by kernel_rfl) (by kernel_rfl) (by kernel_rfl) (fun _ _ _ h => h) (Or.inl ⟨by rfl, ?_⟩) (by assumption) ?_
                rotate_left 1
                ·intro w hSw
                 (try dsimp only at hSw)
                 go_simp
                 (try with_reducible rfl)
                (try simp only [Act.put, List.setIfInBounds_toArray, List.set_cons_zero, List.set_cons_succ])
                refine held_take (i := 15) (v := ?_) rfl (by kernel_rfl) (by kernel_rfl) (by kernel_rfl) (fun _ _ _ h => h) (Or.inl ⟨by rfl, ?_⟩) (by assumption) ?_
                rotate_left 1
                ·intro w hSw
                 (try dsimp only at hSw)
                 go_simp
                 (try with_reducible rfl)
                (try simp only [Act.put, List.setIfInBounds_toArray, List.set_cons_zero, List.set_cons_succ])
                refine wpAnyH_ready (rs := [17]) (by kernel_rfl) (by simp) ?_
                refine held_cons rfl (fun K hK => ?_) ?_
                ·go_simp
                 refine hK.out _ _ ?_ (fun hHeld => ?_)
                 ·exact cells7g (t := 89) (tm := 28) (by repeat (first | (with_reducible first | exact C7 | refine Cells7.alloc ?_ _ | refine Cells7.drewN ?_ _ | refine Cells7.drew ?_ | (refine Cells7.far ?_ ?_ _; rotate_left 1; (first | (dsimp only; omega) | omega | (simp; omega) | simp)) | refine Cells7.keep ?_ hb9) | exact C7)) (by first | exact hsb'.k1 hb9 | exact hsb'.k) (by repeat (first | (with_reducible first | exact hmb' | refine MapV.alloc ?_ _ | refine MapV.drewN ?_ _ | refine MapV.drew ?_ | (refine MapV.far ?_ ?_ _; rotate_left 1; (first | (dsimp only; omega) | omega | (simp; omega) | simp)) | refine MapV.keep ?_ hb9) | exact hmb')) hmem (by omega) (by first | exact BG.k1 hb9 | exact BG.k)
                 clear hK K
                 try simp only [Act.put, List.setIfInBounds_toArray, List.set_cons_zero, List.set_cons_succ]
                 refine wpAnyH_ready (rs := [18]) (by kernel_rfl) (by simp) ?_
                 refine held_cons rfl (fun K hK => ?_) ?_
                 ·go_simp
                  refine hK.out _ _ ?_ (fun hHeld => ?_)
                  ·exact cells7g (t := 89) (tm := 28) (by repeat (first | (with_reducible first | exact C7 | refine Cells7.alloc ?_ _ | refine Cells7.drewN ?_ _ | refine Cells7.drew ?_ | (refine Cells7.far ?_ ?_ _; rotate_left 1; (first | (dsimp only; omega) | omega | (simp; omega) | simp)) | refine Cells7.keep ?_ hb9) | exact C7)) (by first | exact hsb'.k1 hb9 | exact hsb'.k) (by repeat (first | (with_reducible first | exact hmb' | refine MapV.alloc ?_ _ | refine MapV.drewN ?_ _ | refine MapV.drew ?_ | (refine MapV.far ?_ ?_ _; rotate_left 1; (first | (dsimp only; omega) | omega | (simp; omega) | simp)) | refine MapV.keep ?_ hb9) | exact hmb')) hmem (by omega) (by first | exact BG.k1 hb9 | exact BG.k)
                  clear hK K
                  try simp only [Act.put, List.setIfInBounds_toArray, List.set_cons_zero, List.set_cons_succ]
                  refine wpAnyH_ready (rs := [19]) (by kernel_rfl) (by simp) ?_
                  refine held_cons rfl (fun K hK => ?_) ?_
                  ·go_simp
                   refine hK.out _ _ ?_ (fun hHeld => ?_)
                   ·exact cells7g (t := 89) (tm := 28) (by repeat (first | (with_reducible first | exact C7 | refine Cells7.alloc ?_ _ | refine Cells7.drewN ?_ _ | refine Cells7.drew ?_ | (refine Cells7.far ?_ ?_ _; rotate_left 1; (first | (dsimp only; omega) | omega | (simp; omega) | simp)) | refine Cells7.keep ?_ hb9) | exact C7)) (by first | exact hsb'.k1 hb9 | exact hsb'.k) (by repeat (first | (with_reducible first | exact hmb' | refine MapV.alloc ?_ _ | refine MapV.drewN ?_ _ | refine MapV.drew ?_ | (refine MapV.far ?_ ?_ _; rotate_left 1; (first | (dsimp only; omega) | omega | (simp; omega) | simp)) | refine MapV.keep ?_ hb9) | exact hmb')) hmem (by omega) (by first | exact BG.k1 hb9 | exact BG.k)
                   clear hK K
                   try simp only [Act.put, List.setIfInBounds_toArray, List.set_cons_zero, List.set_cons_succ]
                   refine held_take (i := 20) (v := ?_) rfl (by kernel_rfl) (by kernel_rfl) (by kernel_rfl) (fun _ _ _ h => h) (Or.inl ⟨by rfl, ?_⟩) (by assumption) ?_
                   rotate_left 1
                   ·intro w hSw
                    (try dsimp only at hSw)
                    go_simp
                    (try with_reducible rfl)
                   (try simp only [Act.put, List.setIfInBounds_toArray, List.set_cons_zero, List.set_cons_succ])
                   refine wpAnyH_done (by kernel_rfl) ?_ _
                   (try go_wp2_with fail)
                   go_meet
                   have h9l := x9.lt
                   have hAl := xA.lt
                   have hBl := xB.lt
                   have hz9 : wr.heap.size ≤ w9.heap.size := (show Below wr.heap.size wr w9 from (Below.x1 hb9)).size
                   have hm9 : 0 < n9 → wr.heap.size ≤ b9 := fun h => by have := hn9 h; simp at this; omega
                   have hmA : 0 < nA → wr.heap.size ≤ bA := fun h => by have := hnA h; simp at this; omega
                   have hmB : 0 < nB → wr.heap.size ≤ bB := fun h => by have := hnB h; simp at this; omega
                   simp at hn9 hnA hnB
                   refine ⟨_, _, a9, n9, k9, b9, o9, aA, nA, kA, bA, oA, aB, nB, kB, bB, oB, rfl, rfl, rfl, ?_, ?_, hm9, ?_, ?_, hmA, ?_, hmB, ?_, ?_, ?_, ?_⟩
                   ·exact (by repeat (first | (with_reducible first | exact P13 | (refine (Box.new' _ _ _ _ ?_); (simp; done)) | refine Box.alloc ?_ _ | refine Box.drewN ?_ _ | refine Box.drew ?_ | refine Box.set6z ?_ _ _ _ _ _ _ | refine Box.set3z ?_ _ _ _ | refine Box.fx ?_ _ | refine Box.keep ?_ hb9) | exact P13))
                   ·exact (by repeat (first | (with_reducible first | exact x9 | refine IntsAt.alloc ?_ _ | refine IntsAt.drewN ?_ _ | refine IntsAt.drew ?_ | (refine IntsAt.set ?_ ?_ _; rotate_left 1; (intro h0; have hq0 := hn9 h0; have hq1 := h9l h0; first | (dsimp only; omega) | omega | (simp; omega) | simp))) | exact x9))
                   ·exact (by repeat (first | (with_reducible first | exact P14 | (refine (Box.new' _ _ _ _ ?_); (simp; done)) | refine Box.alloc ?_ _ | refine Box.drewN ?_ _ | refine Box.drew ?_ | refine Box.set6z ?_ _ _ _ _ _ _ | refine Box.set3z ?_ _ _ _ | refine Box.fx ?_ _ | refine Box.keep ?_ hb9) | exact P14))
                   ·exact (by repeat (first | (with_reducible first | exact xA | refine IntsAt.alloc ?_ _ | refine IntsAt.drewN ?_ _ | refine IntsAt.drew ?_ | (refine IntsAt.set ?_ ?_ _; rotate_left 1; (intro h0; have hq0 := hnA h0; have hq1 := hAl h0; first | (dsimp only; omega) | omega | (simp; omega) | simp))) | exact xA))
                   ·exact (by repeat (first | (with_reducible first | exact xB | refine IntsAt.alloc ?_ _ | refine IntsAt.drewN ?_ _ | refine IntsAt.drew ?_ | (refine IntsAt.set ?_ ?_ _; rotate_left 1; (intro h0; have hq0 := hnB h0; have hq1 := hBl h0; first | (dsimp only; omega) | omega | (simp; omega) | simp))) | exact xB))
                   ·exact (Below.x1 hb9)
                   ·(first | exact Nat.le_refl _ | omega)
                   ·(first | exact Nat.le_refl _ | omega)
                   ·omega
                  exact AllReadyH.nil
                 exact AllReadyH.nil
                exact AllReadyH.nil
               refine held_cons rfl (fun K hK => ?_) ?_
               ·go_simp
                refine hK.out _ _ ?_ (fun hHeld => ?_)
                ·exact cells7g (t := 89) (tm := 28) (by repeat (first | (with_reducible first | exact C7 | refine Cells7.alloc ?_ _ | refine Cells7.drewN ?_ _ | refine Cells7.drew ?_ | (refine Cells7.far ?_ ?_ _; rotate_left 1; (first | (dsimp only; omega) | omega | (simp; omega) | simp))) | exact C7)) hsb'.k (by repeat (first | (with_reducible first | exact hmb' | refine MapV.alloc ?_ _ | refine MapV.drewN ?_ _ | refine MapV.drew ?_ | (refine MapV.far ?_ ?_ _; rotate_left 1; (first | (dsimp only; omega) | omega | (simp; omega) | simp))) | exact hmb')) hmem (by omega) BG.k
                clear hK K
                try simp only [Act.put, List.setIfInBounds_toArray, List.set_cons_zero, List.set_cons_succ]
                refine wpAnyH_ready (rs := [11]) (by kernel_rfl) (by simp) ?_
                refine held_cons rfl (fun K hK => ?_) ?_
                ·go_simp
                 refine (layBack_any L Y H _ _ _ _ ⟨_, _, _, _, _, _, _, _, _, _, rfl, (show IntsAt _ a4 n4 k4 b4 o4 L.W.cells from x4.k), (show IntsAt _ a5 n5 k5 b5 o5 L.B.cells from x5.k)⟩ (MatAt.mk (show IntsAt _ a7 n7 k7 b7 o7 Y.cells from x7.k)) (MatAt.mk (show IntsAt _ av mv cv bv ov H.cells from yg.k))).mono ?_
                 rintro e w9 ⟨v9, d9, rfl, ⟨a9, n9, k9, b9, o9, rfl, hn9, x9⟩, ⟨aA, nA, kA, bA, oA, aB, nB, kB, bB, oB, rfl, hnA, xA, hnB, xB⟩, hb9⟩
                 have P13 : Box w9 (wr.heap.size) [.int .i64 0, .int .i64 0, .slice none 0 0] 28 := Box.keep Box.x0 hb9
                 have P13c := P13.cell
                 have P13f := P13.thawed
                 have P13z := P13.lt
                 have P13k := lt_add P13z
                 have P14 : Box w9 (wr.heap.size + 1) [.int .i64 0, .int .i64 0, .slice none 0 0, .int .i64 0, .int .i64 0, .slice none 0 0] 93 := Box.keep Box.x0 hb9
                 have P14c := P14.cell
                 have P14f := P14.thawed
                 have P14z := P14.lt
                 have P14k := lt_add P14z
                 go_wp2_with fail
                 refine hK.out _ _ ?_ (fun hHeld => ?_)
                 ·exact cells7g (t := 89) (tm := 28) (by repeat (first | (with_reducible first | exact C7 | refine Cells7.alloc ?_ _ | refine Cells7.drewN ?_ _ | refine Cells7.drew ?_ | (refine Cells7.far ?_ ?_ _; rotate_left 1; (first | (dsimp only; omega) | omega | (simp; omega) | simp)) | refine Cells7.keep ?_ hb9) | exact C7)) (by first | exact hsb'.k1 hb9 | exact hsb'.k) (by repeat (first | (with_reducible first | exact hmb' | refine MapV.alloc ?_ _ | refine MapV.drewN ?_ _ | refine MapV.drew ?_ | (refine MapV.far ?_ ?_ _; rotate_left 1; (first | (dsimp only; omega) | omega | (simp; omega) | simp)) | refine MapV.keep ?_ hb9) | exact hmb')) hmem (by omega) (by first | exact BG.k1 hb9 | exact BG.k)
                 clear hK K
                 try simp only [Act.put, List.setIfInBounds_toArray, List.set_cons_zero, List.set_cons_succ]
                 refine held_take (i := 12) (v := ?_) rfl (by kernel_rfl) (by kernel_rfl) (by kernel_rfl) (fun _ _ _ h => h) (Or.inl ⟨by rfl, ?_⟩) (by assumption) ?_
                 rotate_left 1
                 ·intro w hSw
                  (try dsimp only at hSw)
                  go_simp
                  (try with_reducible rfl)
                 (try simp only [Act.put, List.setIfInBounds_toArray, List.set_cons_zero, List.set_cons_succ])
                 refine held_take (i := 13) (v := ?_) rfl (by kernel_rfl) (by kernel_rfl) (by kernel_rfl) (fun _ _ _ h => h) (Or.inl ⟨by rfl, ?_⟩) (by assumption) ?_
                 rotate_left 1
                 ·intro w hSw
                  (try dsimp only at hSw)
                  go_simp
                  (try with_reducible rfl)
                 (try simp only [Act.put, List.setIfInBounds_toArray, List.set_cons_zero, List.set_cons_succ])
                 refine held_take (i := 14) (v := ?_) rfl (by kernel_rfl) (by kernel_rfl) (by kernel_rfl) (fun _ _ _ h => h) (Or.inl ⟨by rfl, ?_⟩) (by assumption) ?_
                 rotate_left 1
                 ·intro w hSw
                  (try dsimp only at hSw)
                  go_simp
                  (try with_reducible rfl)
                 (try simp only [Act.put, List.setIfInBounds_toArray, List.set_cons_zero, List.set_cons_succ])
                 refine held_take (i := 15) (v := ?_) rfl (by kernel_rfl) (by kernel_rfl) (by kernel_rfl) (fun _ _ _ h => h) (Or.inl ⟨by rfl, ?_⟩) (by assumption) ?_
                 rotate_left 1
                 ·intro w hSw
                  (try dsimp only at hSw)
                  go_simp
                  (try with_reducible rfl)
                 (try simp only [Act.put, List.setIfInBounds_toArray, List.set_cons_zero, List.set_cons_succ])
                 refine wpAnyH_ready (rs := [18]) (by kernel_rfl) (by simp) ?_
                 refine held_cons rfl (fun K hK => ?_) ?_
                 ·go_simp
                  refine hK.out _ _ ?_ (fun hHeld => ?_)
                  ·exact cells7g (t := 89) (tm := 28) (by repeat (first | (with_reducible first | exact C7 | refine Cells7.alloc ?_ _ | refine Cells7.drewN ?_ _ | refine Cells7.drew ?_ | (refine Cells7.far ?_ ?_ _; rotate_left 1; (first | (dsimp only; omega) | omega | (simp; omega) | simp)) | refine Cells7.keep ?_ hb9) | exact C7)) (by first | exact hsb'.k1 hb9 | exact hsb'.k) (by repeat (first | (with_reducible first | exact hmb' | refine MapV.alloc ?_ _ | refine MapV.drewN ?_ _ | refine MapV.drew ?_ | (refine MapV.far ?_ ?_ _; rotate_left 1; (first | (dsimp only; omega) | omega | (simp; omega) | simp)) | refine MapV.keep ?_ hb9) | exact hmb')) hmem (by omega) (by first | exact BG.k1 hb9 | exact BG.k)
                  clear hK K
                  try simp only [Act.put, List.setIfInBounds_toArray, List.set_cons_zero, List.set_cons_succ]
                  refine wpAnyH_ready (rs := [19]) (by kernel_rfl) (by simp) ?_
                  refine held_cons rfl (fun K hK => ?_) ?_
                  ·go_simp
                   refine hK.out _ _ ?_ (fun hHeld => ?_)
                   ·exact cells7g (t := 89) (tm := 28) (by repeat (first | (with_reducible first | exact C7 | refine Cells7.alloc ?_ _ | refine Cells7.drewN ?_ _ | refine Cells7.drew ?_ | (refine Cells7.far ?_ ?_ _; rotate_left 1; (first | (dsimp only; omega) | omega | (simp; omega) | simp)) | refine Cells7.keep ?_ hb9) | exact C7)) (by first | exact hsb'.k1 hb9 | exact hsb'.k) (by repeat (first | (with_reducible first | exact hmb' | refine MapV.alloc ?_ _ | refine MapV.drewN ?_ _ | refine MapV.drew ?_ | (refine MapV.far ?_ ?_ _; rotate_left 1; (first | (dsimp only; omega) | omega | (simp; omega) | simp)) | refine MapV.keep ?_ hb9) | exact hmb')) hmem (by omega) (by first | exact BG.k1 hb9 | exact BG.k)
                   clear hK K
                   try simp only [Act.put, List.setIfInBounds_toArray, List.set_cons_zero, List.set_cons_succ]
                   refine held_take (i := 20) (v := ?_) rfl (by kernel_rfl) (by kernel_rfl) (by kernel_rfl) (fun _ _ _ h => h) (Or.inl ⟨by rfl, ?_⟩) (by assumption) ?_
                   rotate_left 1
                   ·intro w hSw
                    (try dsimp only at hSw)
                    go_simp
                    (try with_reducible rfl)
                   (try simp only [Act.put, List.setIfInBounds_toArray, List.set_cons_zero, List.set_cons_succ])
                   refine wpAnyH_done (by kernel_rfl) ?_ _
                   (try go_wp2_with fail)
                   go_meet
                   have h9l := x9.lt
                   have hAl := xA.lt
                   have hBl := xB.lt
                   have hz9 : wr.heap.size ≤ w9.heap.size := (show Below wr.heap.size wr w9 from (Below.x1 hb9)).size
                   have hm9 : 0 < n9 → wr.heap.size ≤ b9 := fun h => by have := hn9 h; simp at this; omega
                   have hmA : 0 < nA → wr.heap.size ≤ bA := fun h => by have := hnA h; simp at this; omega
                   have hmB : 0 < nB → wr.heap.size ≤ bB := fun h => by have := hnB h; simp at this; omega
                   simp at hn9 hnA hnB
                   refine ⟨_, _, a9, n9, k9, b9, o9, aA, nA, kA, bA, oA, aB, nB, kB, bB, oB, rfl, rfl, rfl, ?_, ?_, hm9, ?_, ?_, hmA, ?_, hmB, ?_, ?_, ?_, ?_⟩
                   ·exact (by repeat (first | (with_reducible first | exact P13 | (refine (Box.new' _ _ _ _ ?_); (simp; done)) | refine Box.alloc ?_ _ | refine Box.drewN ?_ _ | refine Box.drew ?_ | refine Box.set6z ?_ _ _ _ _ _ _ | refine Box.set3z ?_ _ _ _ | refine Box.fx ?_ _ | refine Box.keep ?_ hb9) | exact P13))
                   ·exact (by repeat (first | (with_reducible first | exact x9 | refine IntsAt.alloc ?_ _ | refine IntsAt.drewN ?_ _ | refine IntsAt.drew ?_ | (refine IntsAt.set ?_ ?_ _; rotate_left 1; (intro h0; have hq0 := hn9 h0; have hq1 := h9l h0; first | (dsimp only; omega) | omega | (simp; omega) | simp))) | exact x9))
                   ·exact (by repeat (first | (with_reducible first | exact P14 | (refine (Box.new' _ _ _ _ ?_); (simp; done)) | refine Box.alloc ?_ _ | refine Box.drewN ?_ _ | refine Box.drew ?_ | refine Box.set6z ?_ _ _ _ _ _ _ | refine Box.set3z ?_ _ _ _ | refine Box.fx ?_ _ | refine Box.keep ?_ hb9) | exact P14))
                   ·exact (by repeat (first | (with_reducible first | exact xA | refine IntsAt.alloc ?_ _ | refine IntsAt.drewN ?_ _ | refine IntsAt.drew ?_ | (refine IntsAt.set ?_ ?_ _; rotate_left 1; (intro h0; have hq0 := hnA h0; have hq1 := hAl h0; first | (dsimp only; omega) | omega | (simp; omega) | simp))) | exact xA))
                   ·exact (by repeat (first | (with_reducible first | exact xB | refine IntsAt.alloc ?_ _ | refine IntsAt.drewN ?_ _ | refine IntsAt.drew ?_ | (refine IntsAt.set ?_ ?_ _; rotate_left 1; (intro h0; have hq0 := hnB h0; have hq1 := hBl h0; first | (dsimp only; omega) | omega | (simp; omega) | simp))) | exact xB))
                   ·exact (Below.x1 hb9)
                   ·(first | exact Nat.le_refl _ | omega)
                   ·(first | exact Nat.le_refl _ | omega)
                   ·omega
                  exact AllReadyH.nil
                 exact AllReadyH.nil
                exact AllReadyH.nil
               exact AllReadyH.nil
              refine held_cons rfl (fun K hK => ?_) ?_
              ·go_simp
               refine hK.out _ _ ?_ (fun hHeld => ?_)
               ·exact cells7g (t := 89) (tm := 28) (by repeat (first | (with_reducible first | exact C7 | refine Cells7.alloc ?_ _ | refine Cells7.drewN ?_ _ | refine Cells7.drew ?_ | (refine Cells7.far ?_ ?_ _; rotate_left 1; (first | (dsimp only; omega) | omega | (simp; omega) | simp))) | exact C7)) hsb'.k (by repeat (first | (with_reducible first | exact hmb' | refine MapV.alloc ?_ _ | refine MapV.drewN ?_ _ | refine MapV.drew ?_ | (refine MapV.far ?_ ?_ _; rotate_left 1; (first | (dsimp only; omega) | omega | (simp; omega) | simp))) | exact hmb')) hmem (by omega) BG.k
               clear hK K
               try simp only [Act.put, List.setIfInBounds_toArray, List.set_cons_zero, List.set_cons_succ]
               refine wpAnyH_ready (rs := [11, 16]) (by kernel_rfl) (by simp) ?_
               refine held_cons rfl (fun K hK => ?_) ?_
               ·go_simp
                refine (layBack_any L Y H _ _ _ _ ⟨_, _, _, _, _, _, _, _, _, _, rfl, (show IntsAt _ a4 n4 k4 b4 o4 L.W.cells from x4.k), (show IntsAt _ a5 n5 k5 b5 o5 L.B.cells from x5.k)⟩ (MatAt.mk (show IntsAt _ a7 n7 k7 b7 o7 Y.cells from x7.k)) (MatAt.mk (show IntsAt _ av mv cv bv ov H.cells from yg.k))).mono ?_
                rintro e w9 ⟨v9, d9, rfl, ⟨a9, n9, k9, b9, o9, rfl, hn9, x9⟩, ⟨aA, nA, kA, bA, oA, aB, nB, kB, bB, oB, rfl, hnA, xA, hnB, xB⟩, hb9⟩
                have P14 : Box w9 (wr.heap.size) [.int .i64 0, .int .i64 0, .slice none 0 0, .int .i64 0, .int .i64 0, .slice none 0 0] 93 := Box.keep Box.x0 hb9
                have P14c := P14.cell
                have P14f := P14.thawed
                have P14z := P14.lt
                have P14k := lt_add P14z
                go_wp2_with fail
                refine hK.out _ _ ?_ (fun hHeld => ?_)
                ·exact cells7g (t := 89) (tm := 28) (by repeat (first | (with_reducible first | exact C7 | refine Cells7.alloc ?_ _ | refine Cells7.drewN ?_ _ | refine Cells7.drew ?_ | (refine Cells7.far ?_ ?_ _; rotate_left 1; (first | (dsimp only; omega) | omega | (simp; omega) | simp)) | refine Cells7.keep ?_ hb9) | exact C7)) (by first | exact hsb'.k1 hb9 | exact hsb'.k) (by repeat (first | (with_reducible first | exact hmb' | refine MapV.alloc ?_ _ | refine MapV.drewN ?_ _ | refine MapV.drew ?_ | (refine MapV.far ?_ ?_ _; rotate_left 1; (first | (dsimp only; omega) | omega | (simp; omega) | simp)) | refine MapV.keep ?_ hb9) | exact hmb')) hmem (by omega) (by first | exact BG.k1 hb9 | exact BG.k)
                clear hK K
                try simp only [Act.put, List.setIfInBounds_toArray, List.set_cons_zero, List.set_cons_succ]
                refine held_take (i := 12) (v := ?_) rfl (by kernel_rfl) (by kernel_rfl) (by kernel_rfl) (fun _ _ _ h => h) (Or.inl ⟨by rfl, ?_⟩) (by assumption) ?_
                rotate_left 1
                ·intro w hSw
                 (try dsimp only at hSw)
                 go_simp
                 (try with_reducible rfl)
                (try simp only [Act.put, List.setIfInBounds_toArray, List.set_cons_zero, List.set_cons_succ])
                refine held_take (i := 13) (v := ?_) rfl (by kernel_rfl) (by kernel_rfl) (by kernel_rfl) (fun _ _ _ h => h) (Or.inl ⟨by rfl, ?_⟩) (by assumption) ?_
                rotate_left 1
                ·intro w hSw
                 (try dsimp only at hSw)
                 go_simp
                 (try with_reducible rfl)
                (try simp only [Act.put, List.setIfInBounds_toArray, List.set_cons_zero, List.set_cons_succ])
                refine held_take (i := 14) (v := ?_) rfl (by kernel_rfl) (by kernel_rfl) (by kernel_rfl) (fun _ _ _ h => h) (Or.inl ⟨by rfl, ?_⟩) (by assumption) ?_
                rotate_left 1
                ·intro w hSw
                 (try dsimp only at hSw)
                 go_simp
                 (try with_reducible rfl)
                (try simp only [Act.put, List.setIfInBounds_toArray, List.set_cons_zero, List.set_cons_succ])
                refine held_take (i := 15) (v := ?_) rfl (by kernel_rfl) (by kernel_rfl) (by kernel_rfl) (fun _ _ _ h => h) (Or.inl ⟨by rfl, ?_⟩) (by assumption) ?_
                rotate_left 1
                ·intro w hSw
                 (try dsimp only at hSw)
                 go_simp
                 (try with_reducible rfl)
                (try simp only [Act.put, List.setIfInBounds_toArray, List.set_cons_zero, List.set_cons_succ])
                refine wpAnyH_ready (rs := [16]) (by kernel_rfl) (by simp) ?_
                refine held_cons rfl (fun K hK => ?_) ?_
                ·go_simp
                 refine hK.out _ _ ?_ (fun hHeld => ?_)
                 ·exact cells7g (t := 89) (tm := 28) (by repeat (first | (with_reducible first | exact C7 | refine Cells7.alloc ?_ _ | refine Cells7.drewN ?_ _ | refine Cells7.drew ?_ | (refine Cells7.far ?_ ?_ _; rotate_left 1; (first | (dsimp only; omega) | omega | (simp; omega) | simp)) | refine Cells7.keep ?_ hb9) | exact C7)) (by first | exact hsb'.k1 hb9 | exact hsb'.k) (by repeat (first | (with_reducible first | exact hmb' | refine MapV.alloc ?_ _ | refine MapV.drewN ?_ _ | refine MapV.drew ?_ | (refine MapV.far ?_ ?_ _; rotate_left 1; (first | (dsimp only; omega) | omega | (simp; omega) | simp)) | refine MapV.keep ?_ hb9) | exact hmb')) hmem (by omega) (by first | exact BG.k1 hb9 | exact BG.k)
                 clear hK K
                 try simp only [Act.put, List.setIfInBounds_toArray, List.set_cons_zero, List.set_cons_succ]
                 refine wpAnyH_ready (rs := [18]) (by kernel_rfl) (by simp) ?_
                 refine held_cons rfl (fun K hK => ?_) ?_
                 ·go_simp
                  refine hK.out _ _ ?_ (fun hHeld => ?_)
                  ·exact cells7g (t := 89) (tm := 28) (by repeat (first | (with_reducible first | exact C7 | refine Cells7.alloc ?_ _ | refine Cells7.drewN ?_ _ | refine Cells7.drew ?_ | (refine Cells7.far ?_ ?_ _; rotate_left 1; (first | (dsimp only; omega) | omega | (simp; omega) | simp)) | refine Cells7.keep ?_ hb9) | exact C7)) (by first | exact hsb'.k1 hb9 | exact hsb'.k) (by repeat (first | (with_reducible first | exact hmb' | refine MapV.alloc ?_ _ | refine MapV.drewN ?_ _ | refine MapV.drew ?_ | (refine MapV.far ?_ ?_ _; rotate_left 1; (first | (dsimp only; omega) | omega | (simp; omega) | simp)) | refine MapV.keep ?_ hb9) | exact hmb')) hmem (by omega) (by first | exact BG.k1 hb9 | exact BG.k)
                  clear hK K
                  try simp only [Act.put, List.setIfInBounds_toArray, List.set_cons_zero, List.set_cons_succ]
                  refine wpAnyH_ready (rs := [19]) (by kernel_rfl) (by simp) ?_
                  refine held_cons rfl (fun K hK => ?_) ?_
                  ·go_simp
                   refine hK.out _ _ ?_ (fun hHeld => ?_)
                   ·exact cells7g (t := 89) (tm := 28) (by repeat (first | (with_reducible first | exact C7 | refine Cells7.alloc ?_ _ | refine Cells7.drewN ?_ _ | refine Cells7.drew ?_ | (refine Cells7.far ?_ ?_ _; rotate_left 1; (first | (dsimp only; omega) | omega | (simp; omega) | simp)) | refine Cells7.keep ?_ hb9) | exact C7)) (by first | exact hsb'.k1 hb9 | exact hsb'.k) (by repeat (first | (with_reducible first | exact hmb' | refine MapV.alloc ?_ _ | refine MapV.drewN ?_ _ | refine MapV.drew ?_ | (refine MapV.far ?_ ?_ _; rotate_left 1; (first | (dsimp only; omega) | omega | (simp; omega) | simp)) | refine MapV.keep ?_ hb9) | exact hmb')) hmem (by omega) (by first | exact BG.k1 hb9 | exact BG.k)
                   clear hK K
                   try simp only [Act.put, List.setIfInBounds_toArray, List.set_cons_zero, List.set_cons_succ]
                   refine held_take (i := 20) (v := ?_) rfl (by kernel_rfl) (by kernel_rfl) (by kernel_rfl) (fun _ _ _ h => h) (Or.inl ⟨by rfl, ?_⟩) (by assumption) ?_
                   rotate_left 1
                   ·intro w hSw
                    (try dsimp only at hSw)
                    go_simp
                    (try with_reducible rfl)
                   (try simp only [Act.put, List.setIfInBounds_toArray, List.set_cons_zero, List.set_cons_succ])
                   refine wpAnyH_done (by kernel_rfl) ?_ _
                   (try go_wp2_with fail)
                   go_meet
                   have h9l := x9.lt
                   have hAl := xA.lt
                   have hBl := xB.lt
                   have hz9 : wr.heap.size ≤ w9.heap.size := (show Below wr.heap.size wr w9 from (Below.x1 hb9)).size
                   have hm9 : 0 < n9 → wr.heap.size ≤ b9 := fun h => by have := hn9 h; simp at this; omega
                   have hmA : 0 < nA → wr.heap.size ≤ bA := fun h => by have := hnA h; simp at this; omega
                   have hmB : 0 < nB → wr.heap.size ≤ bB := fun h => by have := hnB h; simp at this; omega
                   simp at hn9 hnA hnB
                   refine ⟨_, _, a9, n9, k9, b9, o9, aA, nA, kA, bA, oA, aB, nB, kB, bB, oB, rfl, rfl, rfl, ?_, ?_, hm9, ?_, ?_, hmA, ?_, hmB, ?_, ?_, ?_, ?_⟩
                   ·exact (by repeat (first | (with_reducible first | exact P13 | (refine (Box.new' _ _ _ _ ?_); (simp; done)) | refine Box.alloc ?_ _ | refine Box.drewN ?_ _ | refine Box.drew ?_ | refine Box.set6z ?_ _ _ _ _ _ _ | refine Box.set3z ?_ _ _ _ | refine Box.fx ?_ _ | refine Box.keep ?_ hb9) | exact P13))
                   ·exact (by repeat (first | (with_reducible first | exact x9 | refine IntsAt.alloc ?_ _ | refine IntsAt.drewN ?_ _ | refine IntsAt.drew ?_ | (refine IntsAt.set ?_ ?_ _; rotate_left 1; (intro h0; have hq0 := hn9 h0; have hq1 := h9l h0; first | (dsimp only; omega) | omega | (simp; omega) | simp))) | exact x9))
                   ·exact (by repeat (first | (with_reducible first | exact P14 | (refine (Box.new' _ _ _ _ ?_); (simp; done)) | refine Box.alloc ?_ _ | refine Box.drewN ?_ _ | refine Box.drew ?_ | refine Box.set6z ?_ _ _ _ _ _ _ | refine Box.set3z ?_ _ _ _ | refine Box.fx ?_ _ | refine Box.keep ?_ hb9) | exact P14))
                   ·exact (by repeat (first | (with_reducible first | exact xA | refine IntsAt.alloc ?_ _ | refine IntsAt.drewN ?_ _ | refine IntsAt.drew ?_ | (refine IntsAt.set ?_ ?_ _; rotate_left 1; (intro h0; have hq0 := hnA h0; have hq1 := hAl h0; first | (dsimp only; omega) | omega | (simp; omega) | simp))) | exact xA))
                   ·exact (by repeat (first | (with_reducible first | exact xB | refine IntsAt.alloc ?_ _ | refine IntsAt.drewN ?_ _ | refine IntsAt.drew ?_ | (refine IntsAt.set ?_ ?_ _; rotate_left 1; (intro h0; have hq0 := hnB h0; have hq1 := hBl h0; first | (dsimp only; omega) | omega | (simp; omega) | simp))) | exact xB))
                   ·exact (Below.x1 hb9)
                   ·(first | exact Nat.le_refl _ | omega)
                   ·(first | exact Nat.le_refl _ | omega)
                   ·omega
                  exact AllReadyH.nil
                 exact AllReadyH.nil
                exact AllReadyH.nil
               refine held_cons rfl (fun K hK => ?_) ?_
               ·go_simp
                refine hK.out _ _ ?_ (fun hHeld => ?_)
                ·exact cells7g (t := 89) (tm := 28) (by repeat (first | (with_reducible first | exact C7 | refine Cells7.alloc ?_ _ | refine Cells7.drewN ?_ _ | refine Cells7.drew ?_ | (refine Cells7.far ?_ ?_ _; rotate_left 1; (first | (dsimp only; omega) | omega | (simp; omega) | simp))) | exact C7)) hsb'.k (by repeat (first | (with_reducible first | exact hmb' | refine MapV.alloc ?_ _ | refine MapV.drewN ?_ _ | refine MapV.drew ?_ | (refine MapV.far ?_ ?_ _; rotate_left 1; (first | (dsimp only; omega) | omega | (simp; omega) | simp))) | exact hmb')) hmem (by omega) BG.k
                clear hK K
                try simp only [Act.put, List.setIfInBounds_toArray, List.set_cons_zero, List.set_cons_succ]
                refine wpAnyH_ready (rs := [11]) (by kernel_rfl) (by simp) ?_
                refine held_cons rfl (fun K hK => ?_) ?_
                ·go_simp
                 refine (layBack_any L Y H _ _ _ _ ⟨_, _, _, _, _, _, _, _, _, _, rfl, (show IntsAt _ a4 n4 k4 b4 o4 L.W.cells from x4.k), (show IntsAt _ a5 n5 k5 b5 o5 L.B.cells from x5.k)⟩ (MatAt.mk (show IntsAt _ a7 n7 k7 b7 o7 Y.cells from x7.k)) (MatAt.mk (show IntsAt _ av mv cv bv ov H.cells from yg.k))).mono ?_
                 rintro e w9 ⟨v9, d9, rfl, ⟨a9, n9, k9, b9, o9, rfl, hn9, x9⟩, ⟨aA, nA, kA, bA, oA, aB, nB, kB, bB, oB, rfl, hnA, xA, hnB, xB⟩, hb9⟩
                 have P13 : Box w9 (wr.heap.size + 1) [.int .i64 0, .int .i64 0, .slice none 0 0] 28 := Box.keep Box.x0 hb9
                 have P13c := P13.cell
                 have P13f := P13.thawed
                 have P13z := P13.lt
                 have P13k := lt_add P13z
                 have P14 : Box w9 (wr.heap.size) [.int .i64 0, .int .i64 0, .slice none 0 0, .int .i64 0, .int .i64 0, .slice none 0 0] 93 := Box.keep Box.x0 hb9
                 have P14c := P14.cell
                 have P14f := P14.thawed
                 have P14z := P14.lt
                 have P14k := lt_add P14z
                 go_wp2_with fail
                 refine hK.out _ _ ?_ (fun hHeld => ?_)
                 ·exact cells7g (t := 89) (tm := 28) (by repeat (first | (with_reducible first | exact C7 | refine Cells7.alloc ?_ _ | refine Cells7.drewN ?_ _ | refine Cells7.drew ?_ | (refine Cells7.far ?_ ?_ _; rotate_left 1; (first | (dsimp only; omega) | omega | (simp; omega) | simp)) | refine Cells7.keep ?_ hb9) | exact C7)) (by first | exact hsb'.k1 hb9 | exact hsb'.k) (by repeat (first | (with_reducible first | exact hmb' | refine MapV.alloc ?_ _ | refine MapV.drewN ?_ _ | refine MapV.drew ?_ | (refine MapV.far ?_ ?_ _; rotate_left 1; (first | (dsimp only; omega) | omega | (simp; omega) | simp)) | refine MapV.keep ?_ hb9) | exact hmb')) hmem (by omega) (by first | exact BG.k1 hb9 | exact BG.k)
                 clear hK K
                 try simp only [Act.put, List.setIfInBounds_toArray, List.set_cons_zero, List.set_cons_succ]
                 refine held_take (i := 12) (v := ?_) rfl (by kernel_rfl) (by kernel_rfl) (by kernel_rfl) (fun _ _ _ h => h) (Or.inl ⟨by rfl, ?_⟩) (by assumption) ?_
                 rotate_left 1
                 ·intro w hSw
                  (try dsimp only at hSw)
                  go_simp
                  (try with_reducible rfl)
                 (try simp only [Act.put, List.setIfInBounds_toArray, List.set_cons_zero, List.set_cons_succ])
                 refine held_take (i := 13) (v := ?_) rfl (by kernel_rfl) (by kernel_rfl) (by kernel_rfl) (fun _ _ _ h => h) (Or.inl ⟨by rfl, ?_⟩) (by assumption) ?_
                 rotate_left 1
                 ·intro w hSw
                  (try dsimp only at hSw)
                  go_simp
                  (try with_reducible rfl)
                 (try simp only [Act.put, List.setIfInBounds_toArray, List.set_cons_zero, List.set_cons_succ])
                 refine held_take (i := 14) (v := ?_) rfl (by kernel_rfl) (by kernel_rfl) (by kernel_rfl) (fun _ _ _ h => h) (Or.inl ⟨by rfl, ?_⟩) (by assumption) ?_
                 rotate_left 1
                 ·intro w hSw
                  (try dsimp only at hSw)
                  go_simp
                  (try with_reducible rfl)
                 (try simp only [Act.put, List.setIfInBounds_toArray, List.set_cons_zero, List.set_cons_succ])
                 refine held_take (i := 15) (v := ?_) rfl (by kernel_rfl) (by kernel_rfl) (by kernel_rfl) (fun _ _ _ h => h) (Or.inl ⟨by rfl, ?_⟩) (by assumption) ?_
                 rotate_left 1
                 ·intro w hSw
                  (try dsimp only at hSw)
                  go_simp
                  (try with_reducible rfl)
                 (try simp only [Act.put, List.setIfInBounds_toArray, List.set_cons_zero, List.set_cons_succ])
                 refine wpAnyH_ready (rs := [18]) (by kernel_rfl) (by simp) ?_
                 refine held_cons rfl (fun K hK => ?_) ?_
                 ·go_simp
                  refine hK.out _ _ ?_ (fun hHeld => ?_)
                  ·exact cells7g (t := 89) (tm := 28) (by repeat (first | (with_reducible first | exact C7 | refine Cells7.alloc ?_ _ | refine Cells7.drewN ?_ _ | refine Cells7.drew ?_ | (refine Cells7.far ?_ ?_ _; rotate_left 1; (first | (dsimp only; omega) | omega | (simp; omega) | simp)) | refine Cells7.keep ?_ hb9) | exact C7)) (by first | exact hsb'.k1 hb9 | exact hsb'.k) (by repeat (first | (with_reducible first | exact hmb' | refine MapV.alloc ?_ _ | refine MapV.drewN ?_ _ | refine MapV.drew ?_ | (refine MapV.far ?_ ?_ _; rotate_left 1; (first | (dsimp only; omega) | omega | (simp; omega) | simp)) | refine MapV.keep ?_ hb9) | exact hmb')) hmem (by omega) (by first | exact BG.k1 hb9 | exact BG.k)
                  clear hK K
                  try simp only [Act.put, List.setIfInBounds_toArray, List.set_cons_zero, List.set_cons_succ]
                  refine wpAnyH_ready (rs := [19]) (by kernel_rfl) (by simp) ?_
                  refine held_cons rfl (fun K hK => ?_) ?_
                  ·go_simp
                   refine hK.out _ _ ?_ (fun hHeld => ?_)
                   ·exact cells7g (t := 89) (tm := 28) (by repeat (first | (with_reducible first | exact C7 | refine Cells7.alloc ?_ _ | refine Cells7.drewN ?_ _ | refine Cells7.drew ?_ | (refine Cells7.far ?_ ?_ _; rotate_left 1; (first | (dsimp only; omega) | omega | (simp; omega) | simp)) | refine Cells7.keep ?_ hb9) | exact C7)) (by first | exact hsb'.k1 hb9 | exact hsb'.k) (by repeat (first | (with_reducible first | exact hmb' | refine MapV.alloc ?_ _ | refine MapV.drewN ?_ _ | refine MapV.drew ?_ | (refine MapV.far ?_ ?_ _; rotate_left 1; (first | (dsimp only; omega) | omega | (simp; omega) | simp)) | refine MapV.keep ?_ hb9) | exact hmb')) hmem (by omega) (by first | exact BG.k1 hb9 | exact BG.k)
                   clear hK K
                   try simp only [Act.put, List.setIfInBounds_toArray, List.set_cons_zero, List.set_cons_succ]
                   refine held_take (i := 20) (v := ?_) rfl (by kernel_rfl) (by kernel_rfl) (by kernel_rfl) (fun _ _ _ h => h) (Or.inl ⟨by rfl, ?_⟩) (by assumption) ?_
                   rotate_left 1
                   ·intro w hSw
                    (try dsimp only at hSw)
                    go_simp
                    (try with_reducible rfl)
                   (try simp only [Act.put, List.setIfInBounds_toArray, List.set_cons_zero, List.set_cons_succ])
                   refine wpAnyH_done (by kernel_rfl) ?_ _
                   (try go_wp2_with fail)
                   go_meet
                   have h9l := x9.lt
                   have hAl := xA.lt
                   have hBl := xB.lt
                   have hz9 : wr.heap.size ≤ w9.heap.size := (show Below wr.heap.size wr w9 from (Below.x1 hb9)).size
                   have hm9 : 0 < n9 → wr.heap.size ≤ b9 := fun h => by have := hn9 h; simp at this; omega
                   have hmA : 0 < nA → wr.heap.size ≤ bA := fun h => by have := hnA h; simp at this; omega
                   have hmB : 0 < nB → wr.heap.size ≤ bB := fun h => by have := hnB h; simp at this; omega
                   simp at hn9 hnA hnB
                   refine ⟨_, _, a9, n9, k9, b9, o9, aA, nA, kA, bA, oA, aB, nB, kB, bB, oB, rfl, rfl, rfl, ?_, ?_, hm9, ?_, ?_, hmA, ?_, hmB, ?_, ?_, ?_, ?_⟩
                   ·exact (by repeat (first | (with_reducible first | exact P13 | (refine (Box.new' _ _ _ _ ?_); (simp; done)) | refine Box.alloc ?_ _ | refine Box.drewN ?_ _ | refine Box.drew ?_ | refine Box.set6z ?_ _ _ _ _ _ _ | refine Box.set3z ?_ _ _ _ | refine Box.fx ?_ _ | refine Box.keep ?_ hb9) | exact P13))
                   ·exact (by repeat (first | (with_reducible first | exact x9 | refine IntsAt.alloc ?_ _ | refine IntsAt.drewN ?_ _ | refine IntsAt.drew ?_ | (refine IntsAt.set ?_ ?_ _; rotate_left 1; (intro h0; have hq0 := hn9 h0; have hq1 := h9l h0; first | (dsimp only; omega) | omega | (simp; omega) | simp))) | exact x9))
                   ·exact (by repeat (first | (with_reducible first | exact P14 | (refine (Box.new' _ _ _ _ ?_); (simp; done)) | refine Box.alloc ?_ _ | refine Box.drewN ?_ _ | refine Box.drew ?_ | refine Box.set6z ?_ _ _ _ _ _ _ | refine Box.set3z ?_ _ _ _ | refine Box.fx ?_ _ | refine Box.keep ?_ hb9) | exact P14))
                   ·exact (by repeat (first | (with_reducible first | exact xA | refine IntsAt.alloc ?_ _ | refine IntsAt.drewN ?_ _ | refine IntsAt.drew ?_ | (refine IntsAt.set ?_ ?_ _; rotate_left 1; (intro h0; have hq0 := hnA h0; have hq1 := hAl h0; first | (dsimp only; omega) | omega | (simp; omega) | simp))) | exact xA))
                   ·exact (by repeat (first | (with_reducible first | exact xB | refine IntsAt.alloc ?_ _ | refine IntsAt.drewN ?_ _ | refine IntsAt.drew ?_ | (refine IntsAt.set ?_ ?_ _; rotate_left 1; (intro h0; have hq0 := hnB h0; have hq1 := hBl h0; first | (dsimp only; omega) | omega | (simp; omega) | simp))) | exact xB))
                   ·exact (Below.x1 hb9)
                   ·(first | exact Nat.le_refl _ | omega)
                   ·(first | exact Nat.le_refl _ | omega)
                   ·omega
                  exact AllReadyH.nil
                 exact AllReadyH.nil
                exact AllReadyH.nil
               exact AllReadyH.nil
              exact AllReadyH.nil
             case rest =>
              obtain ⟨p13, p14, a9, n9, k9, b9, o9, aA, nA, kA, bA, oA, aB, nB, kB, bB, oB, rfl, rfl, rfl, B13, x9, hm9, B14, xA, hmA, xB, hmB, hbc, hp13, hp14, hpq⟩ := hcut
              have hbwc : Below w.heap.size w wc := (Below.y1 hbc hbr)
              have hzc := hbc.size
              have hFX : ∀ b, wr.heap.size ≤ b → offB sb mb gb ob b ∧ w.heap.size ≤ b := fun b h => ⟨⟨by omega, by omega, by omega, by omega⟩, by omega⟩
              have HFX := Lib.hid hFX
              clear hFX
              by_cases hf : L.backFault Y H = 0
              ·rw [errV_nil hf]
               rw [orNone_ok hf] at B13 x9
               rw [orGrd_ok hf] at B14 xA xB
               have B13 := B13
               have B13c := B13.cell
               have B13f := B13.thawed
               have B13z := B13.lt
               have B13k := lt_add B13z
               have B14 := B14
               have B14c := B14.cell
               have B14f := B14.thawed
               have B14z := B14.lt
               have B14k := lt_add B14z
               have BG := BG.keep hbc
               have BGc := BG.cell
               have BGf := BG.thawed
               have BGz := BG.lt
               have BGk := lt_add BGz
               have Bo := Bo.keep hbc
               have Boc := Bo.cell
               have Bof := Bo.thawed
               have Boz := Bo.lt
               have Bok := lt_add Boz
               have hagc := hag.keep hbc
               have HF := Lib.hid hf
               have HCL2 := Lib.hid hcs
               have HCS := Lib.hid hcells
               have HAGC := Lib.hid hag
               have HKP := Lib.hid hkp
               have HSH := Lib.hid hsh
               have hx2 : (p : Int) < (n : Int) := by omega
               clear hf hcells hagc C7 hsb' hmb' x4 x5 x7 hmem hkp hag hsh hcs
               go_wp2_with fail
               refine wp_region_held_drew (S := fun w' => w'.cell? ⟨p13, 0, none⟩ = some (.int .i64 (L.back Y H).rows) ∧ w'.cell? ⟨p13, 1, none⟩ = some (.int .i64 (L.back Y H).cols) ∧ w'.cell? ⟨p13, 2, none⟩ = some (.slice a9 n9 k9) ∧ w'.cell? ⟨p14, 0, none⟩ = some (.int .i64 (L.grad Y H).W.rows) ∧ w'.cell? ⟨p14, 1, none⟩ = some (.int .i64 (L.grad Y H).W.cols) ∧ w'.cell? ⟨p14, 2, none⟩ = some (.slice aA nA kA) ∧ w'.cell? ⟨p14, 3, none⟩ = some (.int .i64 (L.grad Y H).B.rows) ∧ w'.cell? ⟨p14, 4, none⟩ = some (.int .i64 (L.grad Y H).B.cols) ∧ w'.cell? ⟨p14, 5, none⟩ = some (.slice aB nB kB)) (by kernel_rfl) (cells36 (t1 := 28) (t2 := 93) B13.drew B14.drew) (fun hHeld => ?_)
               refine held_take (i := 0) (v := ?_) rfl (by kernel_rfl) (by kernel_rfl) (by kernel_rfl) (fun _ _ _ h => h) (Or.inl ⟨by rfl, ?_⟩) (by assumption) ?_
               rotate_left 1
               ·intro w hSw
                (try dsimp only at hSw)
                go_simp
                (try with_reducible rfl)
               (try simp only [Act.put, List.setIfInBounds_toArray, List.set_cons_zero, List.set_cons_succ])
               refine held_take (i := 1) (v := ?_) rfl (by kernel_rfl) (by kernel_rfl) (by kernel_rfl) (fun _ _ _ h => h) (Or.inl ⟨by rfl, ?_⟩) (by assumption) ?_
               rotate_left 1
               ·intro w hSw
                (try dsimp only at hSw)
                go_simp
                (try with_reducible rfl)
               (try simp only [Act.put, List.setIfInBounds_toArray, List.set_cons_zero, List.set_cons_succ])
               refine held_take (i := 2) (v := ?_) rfl (by kernel_rfl) (by kernel_rfl) (by kernel_rfl) (fun _ _ _ h => h) (Or.inl ⟨by rfl, ?_⟩) (by assumption) ?_
               rotate_left 1
               ·intro w hSw
                (try dsimp only at hSw)
                go_simp
                (try with_reducible rfl)
               (try simp only [Act.put, List.setIfInBounds_toArray, List.set_cons_zero, List.set_cons_succ])
               refine held_take (i := 3) (v := ?_) rfl (by kernel_rfl) (by kernel_rfl) (by kernel_rfl) (fun _ _ _ h => h) (Or.inl ⟨by rfl, ?_⟩) (by assumption) ?_
               rotate_left 1
               ·intro w hSw
                (try dsimp only at hSw)
                go_simp
                (try with_reducible rfl)
               (try simp only [Act.put, List.setIfInBounds_toArray, List.set_cons_zero, List.set_cons_succ])
               refine wpAnyH_ready (rs := [4]) (by kernel_rfl) (by simp) ?_
               refine held_cons rfl (fun K hK => ?_) ?_
               ·go_simp
                obtain ⟨Wa, hWa, A5, Ao, A13, A14, ha9, haA, haB, hfa⟩ : ∃ Wa, (((wc.setCell ⟨gb, 0, none⟩ (.int .i64 (L.back Y H).rows)).setCell ⟨gb, 1, none⟩ (.int .i64 (L.back Y H).cols)).setCell ⟨gb, 2, none⟩ (.slice a9 n9 k9)).drew = Wa ∧ Box Wa gb [.int .i64 (L.back Y H).rows, .int .i64 (L.back Y H).cols, .slice a9 n9 k9] 28 ∧ Box Wa ob cs 93 ∧ Box Wa p13 [.int .i64 (L.back Y H).rows, .int .i64 (L.back Y H).cols, .slice a9 n9 k9] 28 ∧ Box Wa p14 [.int .i64 (L.grad Y H).W.rows, .int .i64 (L.grad Y H).W.cols, .slice aA nA kA, .int .i64 (L.grad Y H).B.rows, .int .i64 (L.grad Y H).B.cols, .slice aB nB kB] 93 ∧ IntsAt Wa a9 n9 k9 b9 o9 (L.back Y H).cells ∧ IntsAt Wa aA nA kA bA oA (L.grad Y H).W.cells ∧ IntsAt Wa aB nB kB bB oB (L.grad Y H).B.cells ∧ Far (fun b => b = gb ∨ b = ob) wr Wa :=
                 ⟨_, rfl, (((BG.set 0 _).set 1 _).set 2 _).drew, Bo.k, B13.k, B14.k, (by repeat (first | (with_reducible first | exact x9 | refine IntsAt.alloc ?_ _ | refine IntsAt.drewN ?_ _ | refine IntsAt.drew ?_ | (refine IntsAt.set ?_ ?_ _; rotate_left 1; (intro h0; have hq0 := hm9 h0; first | (dsimp only; omega) | omega | (simp; omega) | simp))) | exact x9)), (by repeat (first | (with_reducible first | exact xA | refine IntsAt.alloc ?_ _ | refine IntsAt.drewN ?_ _ | refine IntsAt.drew ?_ | (refine IntsAt.set ?_ ?_ _; rotate_left 1; (intro h0; have hq0 := hmA h0; first | (dsimp only; omega) | omega | (simp; omega) | simp))) | exact xA)), (by repeat (first | (with_reducible first | exact xB | refine IntsAt.alloc ?_ _ | refine IntsAt.drewN ?_ _ | refine IntsAt.drew ?_ | (refine IntsAt.set ?_ ?_ _; rotate_left 1; (intro h0; have hq0 := hmB h0; first | (dsimp only; omega) | omega | (simp; omega) | simp))) | exact xB)), ((((Far.of_below hbc).st (fun _ => Or.inl rfl) _).st (fun _ => Or.inl rfl) _).st (fun _ => Or.inl rfl) _).drew⟩
                rw [hWa]
                refine hK.out _ _ ?_ (fun hHeld => ?_)
                ·exact cells36 (t1 := 28) (t2 := 93) A13 A14
                clear hK K
                (try simp only [Act.put, List.setIfInBounds_toArray, List.set_cons_zero, List.set_cons_succ])
                refine held_take (i := 5) (v := ?_) rfl (by kernel_rfl) (by kernel_rfl) (by kernel_rfl) (fun _ _ _ h => h) (Or.inl ⟨by rfl, ?_⟩) (by assumption) ?_
                rotate_left 1
                ·intro w hSw
                 (try dsimp only at hSw)
                 go_simp
                 (try with_reducible rfl)
                (try simp only [Act.put, List.setIfInBounds_toArray, List.set_cons_zero, List.set_cons_succ])
                refine wpAnyH_ready (rs := [6]) (by kernel_rfl) (by simp) ?_
                refine held_cons rfl (fun K hK => ?_) ?_
                ·have hcz := HCL2.out
                 obtain ⟨u0, cu0⟩ := Ao.has (i := p * 6) (by omega)
                 obtain ⟨u1, cu1⟩ := Ao.has (i := p * 6 + 1) (by omega)
                 obtain ⟨u2, cu2⟩ := Ao.has (i := p * 6 + 2) (by omega)
                 obtain ⟨u3, cu3⟩ := Ao.has (i := p * 6 + 3) (by omega)
                 obtain ⟨u4, cu4⟩ := Ao.has (i := p * 6 + 4) (by omega)
                 obtain ⟨u5, cu5⟩ := Ao.has (i := p * 6 + 5) (by omega)
                 have cf := Ao.thawed
                 clear hcz
                 go_simp
                 clear u0 cu0 u1 cu1 u2 cu2 u3 cu3 u4 cu4 u5 cu5 cf
                 obtain ⟨We, hWe, E5, Eo, E13, E14, he9, heA, heB, hfe⟩ : ∃ We, ((((((Wa.setCell ⟨ob, p * 6, none⟩ (.int .i64 (L.grad Y H).W.rows)).setCell ⟨ob, p * 6 + 1, none⟩ (.int .i64 (L.grad Y H).W.cols)).setCell ⟨ob, p * 6 + 2, none⟩ (.slice aA nA kA)).setCell ⟨ob, p * 6 + 3, none⟩ (.int .i64 (L.grad Y H).B.rows)).setCell ⟨ob, p * 6 + 4, none⟩ (.int .i64 (L.grad Y H).B.cols)).setCell ⟨ob, p * 6 + 5, none⟩ (.slice aB nB kB)) = We ∧
                   Box We gb [.int .i64 (L.back Y H).rows, .int .i64 (L.back Y H).cols, .slice a9 n9 k9] 28 ∧ Box We ob ((((((cs.set (p * 6) (.int .i64 (L.grad Y H).W.rows)).set (p * 6 + 1) (.int .i64 (L.grad Y H).W.cols)).set (p * 6 + 2) (.slice aA nA kA)).set (p * 6 + 3) (.int .i64 (L.grad Y H).B.rows)).set (p * 6 + 4) (.int .i64 (L.grad Y H).B.cols)).set (p * 6 + 5) (.slice aB nB kB)) 93 ∧
                   Box We p13 [.int .i64 (L.back Y H).rows, .int .i64 (L.back Y H).cols, .slice a9 n9 k9] 28 ∧ Box We p14 [.int .i64 (L.grad Y H).W.rows, .int .i64 (L.grad Y H).W.cols, .slice aA nA kA, .int .i64 (L.grad Y H).B.rows, .int .i64 (L.grad Y H).B.cols, .slice aB nB kB] 93 ∧ IntsAt We a9 n9 k9 b9 o9 (L.back Y H).cells ∧ IntsAt We aA nA kA bA oA (L.grad Y H).W.cells ∧ IntsAt We aB nB kB bB oB (L.grad Y H).B.cells ∧ Far (fun b => b = gb ∨ b = ob) wr We :=
                  ⟨_, rfl, A5.k, (((((Ao.set _ _).set _ _).set _ _).set _ _).set _ _).set _ _, A13.k, A14.k, (by repeat (first | (with_reducible first | exact ha9 | refine IntsAt.alloc ?_ _ | refine IntsAt.drewN ?_ _ | refine IntsAt.drew ?_ | (refine IntsAt.set ?_ ?_ _; rotate_left 1; (intro h0; have hq0 := hm9 h0; first | (dsimp only; omega) | omega | (simp; omega) | simp))) | exact ha9)), (by repeat (first | (with_reducible first | exact haA | refine IntsAt.alloc ?_ _ | refine IntsAt.drewN ?_ _ | refine IntsAt.drew ?_ | (refine IntsAt.set ?_ ?_ _; rotate_left 1; (intro h0; have hq0 := hmA h0; first | (dsimp only; omega) | omega | (simp; omega) | simp))) | exact haA)), (by repeat (first | (with_reducible first | exact haB | refine IntsAt.alloc ?_ _ | refine IntsAt.drewN ?_ _ | refine IntsAt.drew ?_ | (refine IntsAt.set ?_ ?_ _; rotate_left 1; (intro h0; have hq0 := hmB h0; first | (dsimp only; omega) | omega | (simp; omega) | simp))) | exact haB)), (((((hfa.st (fun _ => Or.inr rfl) _).st (fun _ => Or.inr rfl) _).st (fun _ => Or.inr rfl) _).st (fun _ => Or.inr rfl) _).st (fun _ => Or.inr rfl) _).st (fun _ => Or.inr rfl) _⟩
                 rw [hWe]
                 refine hK.out _ _ ?_ (fun hHeld => ?_)
                 ·exact cells36 (t1 := 28) (t2 := 93) E13 E14
                 clear hK K A5 Ao A13 A14 ha9 haA haB hfa hWe hWa
                 (try simp only [Act.put, List.setIfInBounds_toArray, List.set_cons_zero, List.set_cons_succ])
                 refine wpAnyH_done (by kernel_rfl) ?_ _
                 have hzE := hfe.size
                 have hAN : AgSt 28 93 ls (netOuts ls x n) g n (fun b => offB sb mb gb ob b ∧ w.heap.size ≤ b) gb ob (descs n (n - k + (j + 1))) We := by
                  have e1 : descs n (n - k + (j + 1)) = descs n (n - k + j) ++ [p] := by
                   have h1 := HP.out
                   rw [← Nat.add_assoc, descs_succ, show n - 1 - (n - k + j) = p by omega]
                  rw [e1]
                  exact agSt_next HAGC.out.ok hpn HL.out.symm (HY.out.symm.trans (HMX.out p (by omega)).symm) HH.out.symm HF.out hfe (fun b h => ⟨h.1.2.2.1, h.1.2.2.2⟩) HCL2.out HCS.out E5 he9 (fun h => HFX.out _ (hm9 h)) Eo heA (fun h => HFX.out _ (hmA h)) heB (fun h => HFX.out _ (hmB h))
                 have hfe2 : Far (fun b => b = gb ∨ b = ob) wr We := hfe
                 clear B13 B13c B13f B13z B13k B14 B14c B14f B14z B14k BG BGc BGf BGz BGk Bo Boc Bof Boz Bok E5 Eo E13 E14 he9 heA heB
                 go_wp2
                 go_roundw
                 case rel =>
                  have h1 := HP.out
                  refine ⟨j + 1, by omega, by congr 1; omega, ?_, ?_, hAN, Far.toBelow hbr hfe (by omega) (by rintro b (e | e) <;> omega), by omega⟩
                  ·exact HSH.out.farS hfe (by rintro (e | e) <;> omega) (by rintro (e | e) <;> omega)
                  ·exact HKP.out.farS hfe (fun b hb _ => by rintro (e | e); exact hb.2.2.1 e; exact hb.2.2.2 e)
                 case measure => have h1 := HP.out; simp [intOf] <;> omega
                exact AllReadyH.nil
               exact AllReadyH.nil
              ·rw [errV_err hf]
               have HAG : Hid (agFault ls x want = L.backFault Y H) := Lib.hid (by
                have h1 := HP.out
                have hok := hag.ok
                have e1 : n - k + j = n - 1 - p := by omega
                have e2 : n - 1 - (n - 1 - p) = p := by omega
                have hb0 := bF_descs (ls := ls) (ss := netOuts ls x n) (g := g) n (n - 1 - p) (by omega) (e1 ▸ hok)
                have hgm := (gone_descs (ls := ls) (ss := netOuts ls x n) (g := g) n (n - 1 - p) (by omega)).1
                have hH := HH.out
                rw [e1, hgm] at hH
                have hst := bF_stop (ls := ls) (ss := netOuts ls x n) (g := g) (n := n) (k := n - 1 - p) (by omega) hb0 (by
                 rw [e2, hH, HL.out, HMX.out p (by omega), HY.out]
                 exact hf)
                rw [e2, hH, HL.out, HMX.out p (by omega), HY.out] at hst
                unfold agFault
                rw [if_neg (fun h => h HGO.out), hl, hM, if_neg (fun h => h HLO.out), HGB.out, hst])
               have HF := Lib.hid hf
               clear hf B13 B14 x9 xA xB C7 hsb' hmb' x4 x5 x7 hmem hkp hag hsh hcells BG
               go_wp2
               refine bodyPost_ret (v := .tuple #[.slice none 0 0, .int .i64 0, .int .i64 0, .iface 62 (.int .i64 (L.backFault Y H))]) (by simp [results, Try.results9, go_sem]) rfl ⟨_, _, _, by rw [HAG.out, errV_err HF.out], (Below.y0 hbwc), fun h => absurd (HAG.out.symm.trans h) HF.out, fun _ => ⟨rfl, rfl, rfl⟩⟩
            ·obtain rfl : j = k - c := by omega
             rw [show n - k + (k - c) = n - c by omega] at hag
             go_wp2
             go_loopw [30] (fun i wx => ∃ (m : Nat) (l5 : List (Nat × Value)), c ≤ m ∧ m ≤ k ∧ i = .int .i64 m ∧ ShelfAt wx sb mb ((A + (k - c - 1) - (m - c) : Nat) : Int) ((max B (A + (k - c - 1)) : Nat) : Int) l5 ∧ KeptM ls x (offB sb mb gb ob) (fun j => (S2 n E (c + E) j ∨ (c < j ∧ j < k)) ∧ ¬ (c ≤ j ∧ j < m)) wx l5 ∧
              AgSt 28 93 ls (netOuts ls x n) g n (fun b => offB sb mb gb ob b ∧ w.heap.size ≤ b) gb ob (descs n (n - c)) wx ∧ Below w.heap.size w wx ∧ ob < wx.heap.size) (fun i _ => k - (intOf i).toNat)
             case atStart => exact ⟨c, l3, Nat.le_refl _, by omega, rfl, by rw [Nat.sub_self, Nat.sub_zero]; exact hsh, hkp.same (fun j => ⟨fun h => ⟨h, by omega⟩, fun h => h.1⟩), hag, hbr, hzr⟩
             case round =>
              clear hsh hkp hag hbr hzr
              obtain ⟨m, l5, hm1, hm2, rfl, hsh, hkp, hag, hbr, hzr⟩ := hrel
              by_cases hmlt : m < k
              ·go_wp2_with fail
               refine (shelfDrop_any hsh m (by omega) (by omega)).mono ?_
               rintro e w6 ⟨rfl, ⟨l6, hsh6, hl6⟩, hf6⟩
               go_wp2
               go_roundw
               case rel =>
                have e1 : ((A + (k - c - 1) - (m + 1 - c) : Nat) : Int) = ((A + (k - c - 1) - (m - c) : Nat) : Int) - 1 := by omega
                have hz6 := hf6.size
                refine ⟨m + 1, l6, by omega, by omega, by go_num, by rw [e1]; exact hsh6, ((hkp.farS hf6 (fun b hb _ => by rintro (e | e); exact hb.1 e; exact hb.2.1 e)).drop hl6).same (fun j => ⟨fun h => ⟨h.1.1, by have := h.1.2; have := h.2; omega⟩, fun h => ⟨⟨h.1, by have := h.2; omega⟩, by have := h.2; omega⟩⟩), hag.farS hf6 (fun b hb _ => by rintro (e | e); exact hb.1.1 e; exact hb.1.2.1 e) (by rintro (e | e) <;> omega) (by rintro (e | e) <;> omega), Far.toBelow hbr hf6 (by omega) (by rintro b (e | e) <;> omega), by omega⟩
               case measure => simp [intOf]; omega
              ·obtain rfl : m = k := by omega
               go_wp2
               go_roundw
               case rel =>
                refine ⟨t + 1, l5, by have := HTG.out; omega, by rw [G4.out], by rw [KN.out]; exact hsh, hkp.same (fun j => ?_), by rw [G4.out]; exact hag, hbr, hzr⟩
                rw [G4.out]
                constructor
                ·rintro ⟨(h | h) | h, h2⟩
                 ·have := mod_step hE G5.out h.2.2 h.1
                  exact Or.inl ⟨by omega, h.2.1, h.2.2⟩
                 ·exact Or.inr h
                 ·omega
                ·rintro (h | h)
                 ·exact ⟨Or.inl (Or.inl ⟨by omega, h.2.1, h.2.2⟩), by omega⟩
                 ·exact ⟨Or.inl (Or.inr h), by omega⟩
               case measure => simp [intOf]; omega
       ·obtain rfl : t = groupsOf n E := by omega
        rw [Nat.sub_self, Nat.zero_mul] at hag
        rw [Nat.sub_zero] at hag
        rw [Nat.sub_self, Nat.zero_mul]
        have hend : ¬ (0 : Int) ≤ ((0 : Nat) : Int) - (E : Int) := by omega
        clear hkp
        have c2 := hsh.box.cell 2
        have hbF : bF ls (netOuts ls x n) g n n = 0 := bF_descs n n (Nat.le_refl _) hag.ok
        have HR := Lib.hid (agSt_done hag (by unfold maxLen; omega) (Or.inr trivial) (G := newB w.heap.size) (by unfold newB; omega) (fun b h => h.2))
        have HAG : Hid (agFault ls x want = 0) := Lib.hid (by
         unfold agFault
         rw [if_neg (fun h => h HGO.out), hl, hM, if_neg (fun h => h HLO.out), HGB.out]
         exact hbF)
        have HK : Hid ((keptTo n E (groupsOf n E)).2 = mostIs n E) := Lib.hid (most_is n (by omega) E (by omega) hE).2.1
        go_wp2
        go_region
        all_goals
         go_wp2
         refine bodyPost_ret (v := .tuple #[.slice (some ⟨ob, 0, none⟩) n n, .int .i64 mo, .int .i64 ((keptTo n E (groupsOf n E)).2 : Nat), .nilIface]) (by simp [results, Try.results9, go_sem]) rfl ⟨_, _, _, by rw [HAG.out]; rfl, (Below.y0 hbr), fun _ => ⟨by rw [hM, HMO.out], by rw [HK.out], _, _, _, rfl, by rw [hM, HGB.out]; exact HR.out.keep Below.x0⟩, fun h => absurd HAG.out h⟩
    ·have HAG : Hid (agFault ls x want = lossFault M want) := Lib.hid (by
      unfold agFault
      rw [if_neg (fun h => h HGO.out), hl, hM, if_pos hlo])
     have HLO := Lib.hid hlo
     have HEL : Hid (errV (lossFault M want) = .iface 62 (.int .i64 (lossFault M want))) := Lib.hid (errV_err hlo)
     refine (lossOf_bad M want _ _ _ (MatAt.mk xg) (MatAt.mk x2) hlo).mono ?_
     rintro e w3 ⟨rfl, hb3⟩
     have hbe : Below w.heap.size w w3 := (show Below w.heap.size w w1 from (Below.x1 hb1)).go (hb2.go hb3)
     clear hlo
     go_wp2
     refine bodyPost_ret (v := .tuple #[.slice none 0 0, .int .i64 0, .int .i64 0, .iface 62 (.int .i64 (lossFault M want))]) (by simp [results, Try.results9, go_sem]) rfl ⟨_, _, _, by rw [HAG.out, HEL.out], (Below.y0 hbe), fun h => absurd (HAG.out.symm.trans h) HLO.out, fun _ => ⟨rfl, rfl, rfl⟩⟩
 ·have HAG : Hid (agFault ls x want = netGoFault ls x) := Lib.hid (by
   unfold agFault
   rw [if_pos hgo])
  have HGO := Lib.hid hgo
  have HEL : Hid (errV (netGoFault ls x) = .iface 62 (.int .i64 (netGoFault ls x))) := Lib.hid (errV_err hgo)
  clear hgo
  go_enter Try.func9, Try.ntmps9
  go_wp2_with fail
  refine (netGo_any ls F _ _ _ _ _ x _ _ ((h0.alloc _).alloc _) (MatAt.mk ((x1.alloc _).alloc _))).mono ?_
  rw [HEL.out]
  rintro e w1 ⟨uG, rfl, hb1, _, huG⟩
  have hbe : Below w.heap.size w w1 := (Below.x1 hb1)
  go_wp2
  refine bodyPost_ret (v := .tuple #[.slice none 0 0, .int .i64 0, .int .i64 0, .iface 62 (.int .i64 (netGoFault ls x))]) (by simp [results, Try.results9, go_sem]) rfl ⟨_, _, _, by rw [HAG.out, HEL.out], (Below.y0 hbe), fun h => absurd (HAG.out.symm.trans h) HGO.out, fun _ => ⟨rfl, rfl, rfl⟩⟩
end Go.Proofs.Ytchngeagnlngaaa
end
