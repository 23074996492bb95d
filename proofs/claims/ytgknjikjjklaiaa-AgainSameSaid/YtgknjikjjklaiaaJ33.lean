/- Texts joined: Zero1, PTrain1, PBatch, PBat, PTrain2, Cell7. -/
import Derived.Test.YtgknjikjjklaiaaJ02
import Derived.Test.YtgknjikjjklaiaaJ01
import Derived.Test.YtgknjikjjklaiaaJ05
import Derived.Test.YtgknjikjjklaiaaJ16
import Derived.Test.YtgknjikjjklaiaaJ09
import Derived.Test.YtgknjikjjklaiaaJ17
import Derived.Test.YtgknjikjjklaiaaJ22
import Derived.Test.YtgknjikjjklaiaaJ24
import Derived.Deep.AppendLies
import Derived.Deep.DeepCutAuto
import Derived.Deep.RegionHeld3
import Derived.IntWalk
import Derived.Test.YtgknjikjjklaiaaJ26
section
set_option linter.unusedVariables false
set_option linter.unusedSimpArgs false
set_option linter.unusedSectionVars false
namespace Gal
open Go Go.RowKit
end Gal
namespace Go.Proofs.Ytgknjikjjklaiaa
open Go.RowKit Gal
set_option maxRecDepth 100000
set_option maxHeartbeats 1000000
theorem info_grad : (Try.prog.info? 67).map (fun i => (i.zero, i.size, i.bytes)) = some (some (.agg #[.int .i64 0, .int .i64 0, .slice none 0 0, .int .i64 0, .int .i64 0, .slice none 0 0]), 6, 80) := by kernel_rfl
def Loose (w : World) (base n b : Nat) : Prop := 0 < n → base ≤ b ∧ ∃ cs, w.heap[b]? = some (.cells cs 67)
theorem Loose.kept {w w' : World} {base n b : Nat} (h : Loose w base n b) (hb : 0 < n → base ≤ b → b < w.heap.size → w'.heap[b]? = w.heap[b]?) : Loose w' base n b := fun hn => by
 obtain ⟨h1, cs, h2⟩ := h hn
 exact ⟨h1, cs, by rw [hb hn h1 (heap_lt h2)]; exact h2⟩
theorem Loose.keep {w w' : World} {base n b : Nat} (h : Loose w base n b) (hb : Below w.heap.size w w') : Loose w' base n b := h.kept fun _ _ hl => hb.block b hl
theorem Loose.wide {w : World} {base B n b : Nat} (h : Loose w base n b) (hb : B ≤ base) : Loose w B n b := fun hn => ⟨Nat.le_trans hb (h hn).1, (h hn).2⟩
theorem Loose.farS {S : Nat → Prop} {w w' : World} {base n b : Nat} (h : Loose w base n b) (hf : Far S w w') (hS : ∀ c, base ≤ c → c < w.heap.size → ¬ S c) : Loose w' base n b := h.kept fun _ h1 hl => hf.block b hl (hS b h1 hl)
end Go.Proofs.Ytgknjikjjklaiaa
end
section
set_option linter.unusedVariables false
set_option linter.unusedSimpArgs false
namespace Gal
section
variable {ls : List Lay} {x g : Mat}
end
def gradFits (l : Lay) (d : Grd) : Prop := d.W.fault = 0 ∧ d.B.fault = 0 ∧ likeShape d.W l.W ∧ likeShape d.B l.B
def listFits (ls : List Lay) (ds : List Grd) : Prop := ds.length = ls.length ∧ ∀ k, k < ls.length → gradFits (lx ls k) (gx ds k)
theorem lossBack_fault {a b : Mat} (ha : a.fault = 0) : (lossBack a b).fault = 0 := by
 obtain ⟨R, K, xs, rfl, hR, hK, hl, _⟩ := mat_form ha
 exact matFault_zero (R := R) (C := K) hR hK ((upto_length _ _).trans hl) (inEnds_upto fun k _ => clamp_clamp _)
end Gal
end
section
set_option linter.unusedVariables false
set_option linter.unusedSimpArgs false
namespace Gal
def ints (l : List Nat) : List Int := l.map fun (n : Nat) => (n : Int)
end Gal
end
section
set_option linter.unusedVariables false
set_option linter.unusedSimpArgs false
namespace Gal
structure Bat where
 I : Mat
 W : Mat
def Bat.fault (b : Bat) : Int := if b.I.fault ≠ 0 then b.I.fault else if b.W.fault ≠ 0 then b.W.fault else if b.I.rows ≠ b.W.rows ∨ b.I.rows < 1 then 2 else 0
def nx (s : List Nat) (k : Nat) : Nat := s[k]?.getD 0
theorem Bat.fault_ok {d : Bat} (h : d.fault = 0) : d.I.fault = 0 ∧ d.W.fault = 0 ∧ d.I.rows = d.W.rows ∧ 1 ≤ d.I.rows := by
 unfold Bat.fault at h
 by_cases h1 : d.I.fault = 0
 ·rw [if_neg (by simp [h1])] at h
  by_cases h2 : d.W.fault = 0
  ·rw [if_neg (by simp [h2])] at h
   by_cases h3 : d.I.rows ≠ d.W.rows ∨ d.I.rows < 1
   ·rw [if_pos h3] at h; omega
   ·exact ⟨h1, h2, by omega, by omega⟩
  ·rw [if_pos h2] at h; exact absurd h h2
 ·rw [if_pos h1] at h; exact absurd h h1
def bx (ds : List Bat) (i : Nat) : Bat := ds[i]?.getD ⟨Mat.none, Mat.none⟩
end Gal
end
section
set_option linter.unusedVariables false
set_option linter.unusedSimpArgs false
namespace Gal
structure Sta where
 N : List Lay
 V : List Grd
 steps : Int
def stPart (l : Lay) (v : Grd) : Int := if l.fault ≠ 0 then l.fault else if v.W.fault ≠ 0 then v.W.fault else if v.B.fault ≠ 0 then v.B.fault else if likeShape v.W l.W ∧ likeShape v.B l.B then 0 else 2
theorem stPart_ok {l : Lay} {v : Grd} (h : stPart l v = 0) : l.fault = 0 ∧ gradFits l v := by
 unfold stPart at h
 by_cases h1 : l.fault = 0
 ·rw [if_neg (by simp [h1])] at h
  by_cases h2 : v.W.fault = 0
  ·rw [if_neg (by simp [h2])] at h
   by_cases h3 : v.B.fault = 0
   ·rw [if_neg (by simp [h3])] at h
    by_cases h4 : likeShape v.W l.W ∧ likeShape v.B l.B
    ·exact ⟨h1, h2, h3, h4.1, h4.2⟩
    ·rw [if_neg h4] at h; exact absurd h (by decide)
   ·rw [if_pos h3] at h; exact absurd h h3
  ·rw [if_pos h2] at h; exact absurd h h2
 ·rw [if_pos h1] at h; exact absurd h h1
def stTo (ls : List Lay) (vs : List Grd) : Nat → Int
 | 0 => 0
 | k + 1 => if stTo ls vs k = 0 then stPart (lx ls k) (gx vs k) else stTo ls vs k
theorem stTo_next {ls : List Lay} {vs : List Grd} {k : Nat} (h : stTo ls vs k = 0) : stTo ls vs (k + 1) = stPart (lx ls k) (gx vs k) := if_pos h
theorem stTo_stays {ls : List Lay} {vs : List Grd} {k m : Nat} (h : k ≤ m) (hk : stTo ls vs k ≠ 0) : stTo ls vs m = stTo ls vs k := by
  induction m with
  | zero => obtain rfl : k = 0 := by omega
            rfl
  | succ m ih =>
    rcases Nat.lt_or_ge k (m + 1) with h1 | h1
    · have e := ih (by omega)
      show (if stTo ls vs m = 0 then _ else _) = _
      rw [if_neg (by rw [e]; exact hk), e]
    · obtain rfl : k = m + 1 := by omega
      rfl
theorem stTo_all {ls : List Lay} {vs : List Grd} : ∀ {n : Nat}, stTo ls vs n = 0 → ∀ k, k < n → stPart (lx ls k) (gx vs k) = 0
 | 0, _, k, hk => absurd hk (Nat.not_lt_zero _)
 | n + 1, h, k, hk => by
  have h0 : stTo ls vs n = 0 := Classical.byContradiction fun hne => hne ((stTo_stays (Nat.le_succ n) hne).symm.trans h)
  rcases Nat.lt_or_ge k n with h1 | h1
  ·exact stTo_all h0 k h1
  ·obtain rfl : k = n := by omega
   rw [stTo_next h0] at h
   exact h
def Sta.fault (s : Sta) : Int := if 12 < s.N.length then 3 else if s.V.length ≠ s.N.length then 2 else if s.steps < 0 ∨ 1000000000 < s.steps then 1 else stTo s.N s.V s.N.length
theorem Sta.fault_ok {s : Sta} (h : s.fault = 0) : s.N.length ≤ 12 ∧ 0 ≤ s.steps ∧ s.steps ≤ 1000000000 ∧ (∀ k, k < s.N.length → (lx s.N k).fault = 0) ∧ listFits s.N s.V := by
 unfold Sta.fault at h
 by_cases h1 : 12 < s.N.length
 ·rw [if_pos h1] at h; exact absurd h (by decide)
 rw [if_neg h1] at h
 by_cases h2 : s.V.length ≠ s.N.length
 ·rw [if_pos h2] at h; exact absurd h (by decide)
 rw [if_neg h2] at h
 by_cases h3 : s.steps < 0 ∨ 1000000000 < s.steps
 ·rw [if_pos h3] at h; exact absurd h (by decide)
 rw [if_neg h3] at h
 have h4 := stTo_all h
 exact ⟨by omega, by omega, by omega, fun k hk => (stPart_ok (h4 k hk)).1, by omega, fun k hk => (stPart_ok (h4 k hk)).2⟩
section
variable (N : List Lay) (b : Bat) (S : List Nat)
end
end Gal
end
section
set_option linter.unusedVariables false
set_option linter.unusedSimpArgs false
namespace Gal
open Go Go.RowKit
structure Cells7 (w : World) (b i : Nat) (v0 v1 v2 v3 v4 v5 v6 : Value) : Prop where
 c0 : w.cell? ⟨b, i, none⟩ = some v0
 c1 : w.cell? ⟨b, i + 1, none⟩ = some v1
 c2 : w.cell? ⟨b, i + 2, none⟩ = some v2
 c3 : w.cell? ⟨b, i + 3, none⟩ = some v3
 c4 : w.cell? ⟨b, i + 4, none⟩ = some v4
 c5 : w.cell? ⟨b, i + 5, none⟩ = some v5
 c6 : w.cell? ⟨b, i + 6, none⟩ = some v6
section
variable {w w' : World} {b i : Nat} {v0 v1 v2 v3 v4 v5 v6 : Value}
theorem Cells7.keep (h : Cells7 w b i v0 v1 v2 v3 v4 v5 v6) (hb : Below w.heap.size w w') : Cells7 w' b i v0 v1 v2 v3 v4 v5 v6 := ⟨cell_keep' hb h.c0, cell_keep' hb h.c1, cell_keep' hb h.c2, cell_keep' hb h.c3, cell_keep' hb h.c4, cell_keep' hb h.c5, cell_keep' hb h.c6⟩
theorem Cells7.alloc (h : Cells7 w b i v0 v1 v2 v3 v4 v5 v6) (o : Obj) : Cells7 (w.alloc o) b i v0 v1 v2 v3 v4 v5 v6 := h.keep ((Below.refl w.heap.size w).alloc (Nat.le_refl _) o)
theorem Cells7.drewN (h : Cells7 w b i v0 v1 v2 v3 v4 v5 v6) (n : Nat) : Cells7 (w.drewN n) b i v0 v1 v2 v3 v4 v5 v6 := ⟨h.c0, h.c1, h.c2, h.c3, h.c4, h.c5, h.c6⟩
theorem Cells7.drew (h : Cells7 w b i v0 v1 v2 v3 v4 v5 v6) : Cells7 w.drew b i v0 v1 v2 v3 v4 v5 v6 := ⟨h.c0, h.c1, h.c2, h.c3, h.c4, h.c5, h.c6⟩
theorem Cells7.far (h : Cells7 w b i v0 v1 v2 v3 v4 v5 v6) {a : Addr} (hne : b ≠ a.block) (v : Value) : Cells7 (w.setCell a v) b i v0 v1 v2 v3 v4 v5 v6 :=
 ⟨(World.cell?_of_block (a := ⟨b, i, none⟩) (Below.heap_setCell w a v b hne)).trans h.c0, (World.cell?_of_block (a := ⟨b, i + 1, none⟩) (Below.heap_setCell w a v b hne)).trans h.c1, (World.cell?_of_block (a := ⟨b, i + 2, none⟩) (Below.heap_setCell w a v b hne)).trans h.c2, (World.cell?_of_block (a := ⟨b, i + 3, none⟩) (Below.heap_setCell w a v b hne)).trans h.c3, (World.cell?_of_block (a := ⟨b, i + 4, none⟩) (Below.heap_setCell w a v b hne)).trans h.c4, (World.cell?_of_block (a := ⟨b, i + 5, none⟩) (Below.heap_setCell w a v b hne)).trans h.c5, (World.cell?_of_block (a := ⟨b, i + 6, none⟩) (Below.heap_setCell w a v b hne)).trans h.c6⟩
end
end Gal
end
