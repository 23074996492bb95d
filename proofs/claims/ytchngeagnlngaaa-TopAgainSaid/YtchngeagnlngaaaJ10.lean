/- Texts joined: PTrain2, OpenS, Same, SameM. -/
import Derived.Test.YtchngeagnlngaaaJ09
import Derived.Test.YtchngeagnlngaaaJ02
import Derived.Test.YtchngeagnlngaaaJ08
import Derived.Test.YtchngeagnlngaaaJ04
import Derived.Test.YtchngeagnlngaaaJ03
import Derived.BigQuiet
import Derived.IntWalk
import Derived.RegionTactic
section
set_option linter.unusedVariables false
set_option linter.unusedSimpArgs false
namespace Gal
theorem part_whole {m : Mat} {s : List Nat} {k : Nat} (h : m.fault = 0) (hs : (s.sum : Int) = m.rows) : (matRows m (atOf s k) (atOf s (k + 1))).fault = 0 ∧ (matRows m (atOf s k) (atOf s (k + 1))).rows = (nx s k : Int) ∧ (matRows m (atOf s k) (atOf s (k + 1))).cols = m.cols := by
 obtain ⟨R, K, xs, rfl, hR, hK, hl, he⟩ := mat_form h
 have h1 := atOf_le s (k + 1)
 have h2 : atOf s (k + 1) = atOf s k + nx s k := rfl
 have hs' : s.sum = R := by dsimp only at hs; omega
 rw [rows_upto (show atOf s k ≤ atOf s (k + 1) by omega) (by omega) hl]
 refine ⟨?_, ?_, rfl⟩
 ·refine matFault_zero (by omega) hK (upto_length _ _) (inEnds_upto fun j hj => he _ ?_)
  have h3 : atOf s k * K + (atOf s (k + 1) - atOf s k) * K = atOf s (k + 1) * K := by rw [← Nat.add_mul]; congr 1; omega
  have h4 : atOf s (k + 1) * K ≤ R * K := Nat.mul_le_mul_right K (by omega)
  omega
 ·dsimp only
  omega
structure Sta where
 N : List Lay
 V : List Grd
 steps : Int
def stPart (l : Lay) (v : Grd) : Int := if l.fault ≠ 0 then l.fault else if v.W.fault ≠ 0 then v.W.fault else if v.B.fault ≠ 0 then v.B.fault else if likeShape v.W l.W ∧ likeShape v.B l.B then 0 else 2
theorem stPart_ok {l : Lay} {v : Grd} (h : stPart l v = 0) : l.fault = 0 ∧ gradFits l v := by
 unfold stPart at h
 by_cases h1 : l.fault = 0
 ·rw [if_neg (by simp [h1])] at h
  by_cases h2 : v.W.fault = 0
  ·rw [if_neg (by simp [h2])] at h
   by_cases h3 : v.B.fault = 0
   ·rw [if_neg (by simp [h3])] at h
    by_cases h4 : likeShape v.W l.W ∧ likeShape v.B l.B
    ·exact ⟨h1, h2, h3, h4.1, h4.2⟩
    ·rw [if_neg h4] at h; exact absurd h (by decide)
   ·rw [if_pos h3] at h; exact absurd h h3
  ·rw [if_pos h2] at h; exact absurd h h2
 ·rw [if_pos h1] at h; exact absurd h h1
def stTo (ls : List Lay) (vs : List Grd) : Nat → Int
 | 0 => 0
 | k + 1 => if stTo ls vs k = 0 then stPart (lx ls k) (gx vs k) else stTo ls vs k
theorem stTo_next {ls : List Lay} {vs : List Grd} {k : Nat} (h : stTo ls vs k = 0) : stTo ls vs (k + 1) = stPart (lx ls k) (gx vs k) := if_pos h
theorem stTo_stays {ls : List Lay} {vs : List Grd} {k m : Nat} (h : k ≤ m) (hk : stTo ls vs k ≠ 0) : stTo ls vs m = stTo ls vs k := by
  induction m with
  | zero => obtain rfl : k = 0 := by omega
            rfl
  | succ m ih =>
    rcases Nat.lt_or_ge k (m + 1) with h1 | h1
    · have e := ih (by omega)
      show (if stTo ls vs m = 0 then _ else _) = _
      rw [if_neg (by rw [e]; exact hk), e]
    · obtain rfl : k = m + 1 := by omega
      rfl
theorem stTo_all {ls : List Lay} {vs : List Grd} : ∀ {n : Nat}, stTo ls vs n = 0 → ∀ k, k < n → stPart (lx ls k) (gx vs k) = 0
 | 0, _, k, hk => absurd hk (Nat.not_lt_zero _)
 | n + 1, h, k, hk => by
  have h0 : stTo ls vs n = 0 := Classical.byContradiction fun hne => hne ((stTo_stays (Nat.le_succ n) hne).symm.trans h)
  rcases Nat.lt_or_ge k n with h1 | h1
  ·exact stTo_all h0 k h1
  ·obtain rfl : k = n := by omega
   rw [stTo_next h0] at h
   exact h
def Sta.fault (s : Sta) : Int := if 12 < s.N.length then 3 else if s.V.length ≠ s.N.length then 2 else if s.steps < 0 ∨ 1000000000 < s.steps then 1 else stTo s.N s.V s.N.length
theorem Sta.fault_ok {s : Sta} (h : s.fault = 0) : s.N.length ≤ 12 ∧ 0 ≤ s.steps ∧ s.steps ≤ 1000000000 ∧ (∀ k, k < s.N.length → (lx s.N k).fault = 0) ∧ listFits s.N s.V := by
 unfold Sta.fault at h
 by_cases h1 : 12 < s.N.length
 ·rw [if_pos h1] at h; exact absurd h (by decide)
 rw [if_neg h1] at h
 by_cases h2 : s.V.length ≠ s.N.length
 ·rw [if_pos h2] at h; exact absurd h (by decide)
 rw [if_neg h2] at h
 by_cases h3 : s.steps < 0 ∨ 1000000000 < s.steps
 ·rw [if_pos h3] at h; exact absurd h (by decide)
 rw [if_neg h3] at h
 have h4 := stTo_all h
 exact ⟨by omega, by omega, by omega, fun k hk => (stPart_ok (h4 k hk)).1, by omega, fun k hk => (stPart_ok (h4 k hk)).2⟩
section
variable (N : List Lay) (b : Bat) (S : List Nat)
def partOff (d : Bat) : Int := lossOf (midOf N d.I) d.W
def partBack (d : Bat) : Mat := lossBack (midOf N d.I) d.W
def partTurn (d : Bat) : List Grd := bDs N (sawOne N d.I) (partBack N d) N.length
def byTo : Nat → List Grd
 | 0 => zeroNet N
 | k + 1 => gatherTo (byTo k) (partTurn N (partOf b S k)) (byTo k).length
def offTo : Nat → Int
 | 0 => 0
 | k + 1 => add (offTo k) (partOff N (partOf b S k))
end
def sizesIn (b : Bat) (p : Int) : List Nat := sizesOf b.I.rows.toNat p.toNat
def oneFault (s : Sta) (b : Bat) (p ln kp : Int) : Int :=
 if s.fault ≠ 0 then s.fault else if splitFault b p ≠ 0 then splitFault b p else if netWideFault s.N b.I.cols ≠ 0 then netWideFault s.N b.I.cols else if netW s.N b.I.cols s.N.length ≠ b.W.cols then 2
 else if 12 < nx (sizesIn b p) 0 then 1 else if ln < 0 ∨ 256 < ln ∨ kp < 0 ∨ 256 < kp then 1 else 0
def oneOf (s : Sta) (b : Bat) (p ln kp : Int) : Sta :=
 ⟨stepLays s.N s.V (byTo s.N b (sizesIn b p) p.toNat) ln kp s.N.length, stepGrds s.N s.V (byTo s.N b (sizesIn b p) p.toNat) kp s.N.length, s.steps + 1⟩
def oneOff (s : Sta) (b : Bat) (p : Int) : Int := offTo s.N b (sizesIn b p) p.toNat
theorem nx_falls {left rows : Nat} : ∀ k, k < left → nx (sizesOf rows left) k ≤ nx (sizesOf rows left) 0
 | 0, _ => Nat.le_refl _
 | k + 1, h => Nat.le_trans (sizesOf_falls left rows k (by omega)) (nx_falls k (by omega))
theorem nx_pos {left rows k : Nat} (h : left ≤ rows) (hk : k < left) : 1 ≤ nx (sizesOf rows left) k := by
 have hl : k < (sizesOf rows left).length := by rw [sizesOf_length]; exact hk
 unfold nx
 rw [List.getElem?_eq_getElem hl]
 exact sizesOf_pos left rows h _ (List.getElem_mem hl)
structure PartOk (N : List Lay) (d : Bat) : Prop where
 I : d.I.fault = 0
 W : d.W.fault = 0
 rows : d.I.rows = d.W.rows ∧ 1 ≤ d.I.rows ∧ d.I.rows ≤ 12
 go : netGoFault N d.I = 0
 loss : lossFault (midOf N d.I) d.W = 0
 back : netBackFault N (sawOne N d.I) (partBack N d) = 0
 turn : listFits N (partTurn N d)
theorem part_ok {N : List Lay} {d : Bat} (h12 : N.length ≤ 12) (hI : d.I.fault = 0) (hW : d.W.fault = 0) (hr : d.I.rows = d.W.rows) (h1 : 1 ≤ d.I.rows) (hr12 : d.I.rows ≤ 12) (hw : wideTo N d.I.cols N.length = 0) (hc : netW N d.I.cols N.length = d.W.cols) : PartOk N d := by
 obtain ⟨g1, g2, g3⟩ := go_wide (n := N) hI hw
 have hm : (midOf N d.I).fault = 0 := netTo_fault hI g1
 have hrow : ∀ k, k ≤ N.length → (netTo N d.I k).rows = d.I.rows := fun k hk => (go_wide (n := N) hI (wideTo_less hk hw)).2.2
 have hb : (partBack N d).fault = 0 := lossBack_fault hm
 have hbr : (partBack N d).rows = d.I.rows := g3
 have hbc : (partBack N d).cols = (netTo N d.I N.length).cols := rfl
 obtain ⟨q1, _⟩ := backs_ok g1 hb hbr hbc hr12 hrow N.length (Nat.le_refl _)
 refine ⟨hI, hW, ⟨hr, h1, hr12⟩, ?_, lossFault_zero hm hW (g3.trans hr) (g2.trans hc), netBackFault_zero h12 (netOuts_length _ _ _) hb q1, bDs_fits g1 hb hbr hbc hr12 hrow⟩
 unfold netGoFault
 rw [if_neg (by omega), if_neg (by simp [hI])]
 exact g1
theorem oneFault_ok {s : Sta} {b : Bat} {p ln kp : Int} (h : oneFault s b p ln kp = 0) :
  s.fault = 0 ∧ splitFault b p = 0 ∧ netWideFault s.N b.I.cols = 0 ∧ netW s.N b.I.cols s.N.length = b.W.cols ∧ nx (sizesIn b p) 0 ≤ 12 ∧ 0 ≤ ln ∧ ln ≤ 256 ∧ 0 ≤ kp ∧ kp ≤ 256 := by
 unfold oneFault at h
 by_cases h1 : s.fault = 0
 ·rw [if_neg (by simp [h1])] at h
  by_cases h2 : splitFault b p = 0
  ·rw [if_neg (by simp [h2])] at h
   by_cases h3 : netWideFault s.N b.I.cols = 0
   ·rw [if_neg (by simp [h3])] at h
    by_cases h4 : netW s.N b.I.cols s.N.length = b.W.cols
    ·rw [if_neg (by simp [h4])] at h
     by_cases h5 : 12 < nx (sizesIn b p) 0
     ·rw [if_pos h5] at h; exact absurd h (by decide)
     ·rw [if_neg h5] at h
      by_cases h6 : ln < 0 ∨ 256 < ln ∨ kp < 0 ∨ 256 < kp
      ·rw [if_pos h6] at h; exact absurd h (by decide)
      ·exact ⟨h1, h2, h3, h4, by omega, by omega, by omega, by omega, by omega⟩
    ·rw [if_pos h4] at h; exact absurd h (by decide)
   ·rw [if_pos h3] at h; exact absurd h h3
  ·rw [if_pos h2] at h; exact absurd h h2
 ·rw [if_pos h1] at h; exact absurd h h1
theorem splitFault_ok {b : Bat} {p : Int} (h : splitFault b p = 0) : b.fault = 0 ∧ 1 ≤ p ∧ p ≤ 12 ∧ p ≤ b.I.rows ∧ b.I.rows ≤ 24 := by
 unfold splitFault at h
 by_cases h1 : b.fault = 0
 ·rw [if_neg (by simp [h1])] at h
  obtain ⟨_, h2, h3, h4, h5⟩ := sizesFault_ok h
  exact ⟨h1, h3, h4, h5, h2⟩
 ·rw [if_pos h1] at h; exact absurd h h1
theorem sizes_sum {b : Bat} {p : Int} (h : splitFault b p = 0) : ((sizesIn b p).sum : Int) = b.I.rows := by
 obtain ⟨_, h1, _, h2, _⟩ := splitFault_ok h
 unfold sizesIn
 rw [sizesOf_sum _ _ (by omega)]
 omega
theorem one_parts {s : Sta} {b : Bat} {p ln kp : Int} (h : oneFault s b p ln kp = 0) : ∀ k, k < p.toNat → PartOk s.N (partOf b (sizesIn b p) k) := by
 obtain ⟨h1, h2, h3, h4, h5, _⟩ := oneFault_ok h
 obtain ⟨f1, _⟩ := Sta.fault_ok h1
 obtain ⟨b1, p1, p2, p3, p4⟩ := splitFault_ok h2
 obtain ⟨i1, i2, i3, i4⟩ := Bat.fault_ok b1
 have hsum := sizes_sum h2
 have hw : wideTo s.N b.I.cols s.N.length = 0 := by
  unfold netWideFault at h3
  rw [if_neg (by omega)] at h3
  by_cases hq : s.N.length = 0 ∧ (b.I.cols < 0 ∨ 12 < b.I.cols)
  ·rw [if_pos hq] at h3; exact absurd h3 (by decide)
  ·rwa [if_neg hq] at h3
 intro k hk
 obtain ⟨a1, a2, a3⟩ := part_whole (k := k) i1 hsum
 obtain ⟨c1, c2, c3⟩ := part_whole (m := b.W) (k := k) i2 (hsum.trans i3)
 have hn1 : 1 ≤ nx (sizesIn b p) k := nx_pos (by omega) hk
 have hn2 : nx (sizesIn b p) k ≤ nx (sizesIn b p) 0 := nx_falls k hk
 refine part_ok f1 a1 c1 (a2.trans c2.symm) ?_ ?_ ?_ ?_
 ·show 1 ≤ (matRows b.I (atOf (sizesIn b p) k) (atOf (sizesIn b p) (k + 1))).rows
  rw [a2]; omega
 ·show (matRows b.I (atOf (sizesIn b p) k) (atOf (sizesIn b p) (k + 1))).rows ≤ 12
  rw [a2]; omega
 ·show wideTo s.N (matRows b.I (atOf (sizesIn b p) k) (atOf (sizesIn b p) (k + 1))).cols s.N.length = 0
  rw [a3]; exact hw
 ·show netW s.N (matRows b.I (atOf (sizesIn b p) k) (atOf (sizesIn b p) (k + 1))).cols s.N.length = (matRows b.W (atOf (sizesIn b p) k) (atOf (sizesIn b p) (k + 1))).cols
  rw [a3, c3]; exact h4
theorem byTo_fits {s : Sta} {b : Bat} {p ln kp : Int} (h : oneFault s b p ln kp = 0) : ∀ k, k ≤ p.toNat → listFits s.N (byTo s.N b (sizesIn b p) k)
 | 0, _ => zeros_fit (Sta.fault_ok (oneFault_ok h).1).2.2.2.1
 | k + 1, hk => (gather_fits (byTo_fits h k (by omega)) (one_parts h k (by omega)).turn).2
theorem byTo_gather {s : Sta} {b : Bat} {p ln kp : Int} (h : oneFault s b p ln kp = 0) {k : Nat} (hk : k < p.toNat) : gatherFault (byTo s.N b (sizesIn b p) k) (partTurn s.N (partOf b (sizesIn b p) k)) = 0 :=
 (gather_fits (byTo_fits h k (by omega)) (one_parts h k hk).turn).1
theorem one_step {s : Sta} {b : Bat} {p ln kp : Int} (h : oneFault s b p ln kp = 0) : stepFault s.N s.V (byTo s.N b (sizesIn b p) p.toNat) ln kp = 0 := by
 obtain ⟨h1, _, _, _, _, h6, h7, h8, h9⟩ := oneFault_ok h
 obtain ⟨f1, _, _, f4, f5, f6⟩ := Sta.fault_ok h1
 obtain ⟨g1, g2⟩ := byTo_fits h p.toNat (Nat.le_refl _)
 refine stepFault_none ⟨h6, h7, h8, h9⟩ f1 f5 g1 fun k hk => ?_
 obtain ⟨a1, a2, a3, a4⟩ := f6 k hk
 obtain ⟨c1, c2, c3, c4⟩ := g2 k hk
 exact fits_mk (f4 k hk) a1 a2 c1 c2 a3 a4 c3 c4
end Gal
end
section
set_option linter.unusedVariables false
set_option linter.unusedSimpArgs false
set_option linter.unusedSectionVars false
namespace Gal
open Go Go.RowKit
def Form.sta : Form Sta := (Form.lay.slice.and (Form.grd.slice.and Form.int)).as fun x => ⟨x.1, x.2.1, x.2.2⟩
def StaV (w : World) (v : Value) (s : Sta) : Prop := ∃ a0 n k0 b0 o0 a1 n1 k1 b1 o1, v = .agg #[.slice a0 n k0, .slice a1 n1 k1, .int .i64 s.steps] ∧ RowAt Form.lay w anyB a0 n k0 b0 o0 s.N ∧ RowAt Form.grd w anyB a1 n1 k1 b1 o1 s.V
theorem sta_reads {w : World} {cs : List Value} {s : Sta} (h : Form.sta.reads w anyB cs s) : ∃ a0 n k0 b0 o0 a1 n1 k1 b1 o1, cs = [.slice a0 n k0, .slice a1 n1 k1, .int .i64 s.steps] ∧ RowAt Form.lay w anyB a0 n k0 b0 o0 s.N ∧ RowAt Form.grd w anyB a1 n1 k1 b1 o1 s.V := by
 obtain ⟨⟨N, V, st⟩, ⟨c0, c1, rfl, ⟨a0, n, k0, b0, o0, h0, hr0⟩, c2, c3, rfl, ⟨a1, n1, k1, b1, o1, h1, hr1⟩, h2⟩, rfl⟩ := h
 simp only at h0 h1 h2
 rw [h0, h1, h2]
 exact ⟨a0, n, k0, b0, o0, a1, n1, k1, b1, o1, rfl, hr0, hr1⟩
theorem At.sta {w : World} {v : Value} {s : Sta} (h : At Form.sta w anyB v s) : StaV w v s := by
 obtain ⟨cs, rfl, h⟩ := h
 obtain ⟨a0, n, k0, b0, o0, a1, n1, k1, b1, o1, rfl, h0, h1⟩ := sta_reads h
 exact ⟨a0, n, k0, b0, o0, a1, n1, k1, b1, o1, rfl, h0, h1⟩
end Gal
namespace Go.Proofs.Ytchngeagnlngaaa
open Go.RowKit Gal Go.ChangeShapes Go.WideShapes
set_option maxRecDepth 100000
theorem opens_sta : Opens Try.prog Form.sta 25 := Opens.as (Opens.three Try.underlying25 (Opens.slice opens_lay Try.underlying22 (by kernel_rfl) (by decide)) (Opens.slice opens_grd Try.underlying23 (by kernel_rfl) (by decide)) opens_int (by kernel_rfl) (by kernel_rfl) (by kernel_rfl) (by kernel_rfl)) _
theorem open_galley_galleyref1_State {H : Type} {enc : TypeId × Value → H} {w : World} {base b0 : Nat} {r : Reach} {spare : Nat → Bool} {held : Bool} {v : Value} {d : DataW H} {p : List MemPlace}
  (hv : Value.okWide Try.prog w r b0 25 v) (h : DataW.Trod enc Try.prog w base spare held 25 v d p) : ∃ s : Sta, StaV w v s := by
 obtain ⟨s, hs⟩ := opens_sta.top_struct Try.underlying25 hv h
 exact ⟨s, hs.sta⟩
end Go.Proofs.Ytchngeagnlngaaa
end
section
set_option linter.unusedVariables false
set_option linter.unusedSimpArgs false
namespace Go.Proofs.Ytchngeagnlngaaa
open Go.RowKit Gal
set_option maxRecDepth 100000 in
set_option maxHeartbeats 1000000 in
theorem matrices_any (ma mb : Mat) (va vb : Value) (w : World) (ha : MatAt w va ma) (hb : MatAt w vb mb) :
  Calls Try.prog 74 #[va, vb] w fun e w' => e = .returned (.bool (decide (ma = mb))) ∧ Below w.heap.size w w' := by
 obtain ⟨r0, c0, xs⟩ := ma
 obtain ⟨r1, c1, ys⟩ := mb
 obtain ⟨a0, n0, k0, b0, o0, rfl, h0⟩ := ha
 obtain ⟨a1, n1, k1, b1, o1, rfl, h1⟩ := hb
 dsimp only at h0 h1
 by_cases h : r0 = r1 ∧ c0 = c1
 ·obtain ⟨rfl, rfl⟩ := h
  have e1 : (r0 != r0) = false := by simp
  have e2 : (c0 != c0) = false := by simp
  go_enter Try.func74, Try.ntmps74
  go_wp2_with fail
  refine (ints_any _ _ _ _ _ _ _ _ _ _ xs ys _ (h0.alloc _ |>.alloc _) (h1.alloc _ |>.alloc _)).mono ?_
  rintro e w1 ⟨rfl, m, rfl⟩
  go_wp2
  go_ret
  refine ⟨ret_val ?_, Below.x0⟩
  simp [go_sem]
 ·have hd : decide ((⟨r0, c0, xs⟩ : Mat) = ⟨r1, c1, ys⟩) = false := decide_eq_false (fun e => h (by simp only [Mat.mk.injEq] at e; exact ⟨e.1, e.2.1⟩))
  rw [hd]
  clear hd
  by_cases hr : r0 = r1
  ·subst hr
   have e1 : (r0 != r0) = false := by simp
   have e2 : (c0 != c1) = true := by simp; intro e; exact h ⟨rfl, e⟩
   clear h
   go_enter Try.func74, Try.ntmps74
   go_wp2
   go_ret
   exact ⟨rfl, Below.x0⟩
  ·have e1 : (r0 != r1) = true := by simp [hr]
   clear h hr
   go_enter Try.func74, Try.ntmps74
   go_wp2
   go_ret
   exact ⟨rfl, Below.x0⟩
end Go.Proofs.Ytchngeagnlngaaa
end
section
set_option linter.unusedVariables false
set_option linter.unusedSimpArgs false
namespace Go.Proofs.Ytchngeagnlngaaa
open Go.RowKit Gal
theorem matrices_sameM (ma : Mat) (va vb : Value) (w : World) (ha : MatAt w va ma) (hb : MatAt w vb ma) :
  Calls Try.prog 74 #[va, vb] w fun e w' => e = .returned (.bool true) ∧ Below w.heap.size w w' :=
 (matrices_any ma ma va vb w ha hb).mono fun _ _ ⟨h, hb⟩ => ⟨by rw [h, decide_eq_true rfl], hb⟩
end Go.Proofs.Ytchngeagnlngaaa
end
