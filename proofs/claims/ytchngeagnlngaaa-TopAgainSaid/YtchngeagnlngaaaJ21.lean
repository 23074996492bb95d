/- Texts joined: Batch2, OwnOne. -/
import Derived.Test.YtchngeagnlngaaaJ20
import Derived.Test.YtchngeagnlngaaaJ09
import Derived.Test.YtchngeagnlngaaaJ04
import Derived.Test.YtchngeagnlngaaaJ13
import Derived.Test.YtchngeagnlngaaaJ03
section
set_option linter.unusedVariables false
set_option linter.unusedSimpArgs false
set_option linter.unusedSectionVars false
namespace Gal
open Go Go.RowKit
def Form.bat : Form Bat := (Form.mat.and Form.mat).as fun x => ⟨x.1, x.2⟩
def BatAt (w : World) (v : Value) (b : Bat) : Prop := ∃ a n cap p o a' n' cap' p' o', v = .agg #[.int .i64 b.I.rows, .int .i64 b.I.cols, .slice a n cap, .int .i64 b.W.rows, .int .i64 b.W.cols, .slice a' n' cap'] ∧ IntsAt w a n cap p o b.I.cells ∧ IntsAt w a' n' cap' p' o' b.W.cells
theorem bat_reads {w : World} {F : Nat → Prop} {cs : List Value} {d : Bat} (h : Form.bat.reads w F cs d) :
  ∃ a n cap b o a' n' cap' b' o', cs = [.int .i64 d.I.rows, .int .i64 d.I.cols, .slice a n cap, .int .i64 d.W.rows, .int .i64 d.W.cols, .slice a' n' cap'] ∧ (0 < n → F b) ∧ IntsAt w a n cap b o d.I.cells ∧ (0 < n' → F b') ∧ IntsAt w a' n' cap' b' o' d.W.cells := by
 obtain ⟨⟨W, B⟩, ⟨c1, d1, rfl, ⟨a, n, cap, b, o, rfl, hF, x0⟩, ⟨a', n', cap', b', o', rfl, hF', x1⟩⟩, rfl⟩ := h
 exact ⟨a, n, cap, b, o, a', n', cap', b', o', rfl, hF, x0, hF', x1⟩
theorem reads_bat {w : World} {F : Nat → Prop} {d : Bat} {a a' : Option Addr} {n n' cap cap' b b' o o' : Nat} (hF : 0 < n → F b) (x0 : IntsAt w a n cap b o d.I.cells) (hF' : 0 < n' → F b') (x1 : IntsAt w a' n' cap' b' o' d.W.cells) :
  Form.bat.reads w F [.int .i64 d.I.rows, .int .i64 d.I.cols, .slice a n cap, .int .i64 d.W.rows, .int .i64 d.W.cols, .slice a' n' cap'] d :=
 ⟨(d.I, d.W), ⟨_, _, rfl, ⟨a, n, cap, b, o, rfl, hF, x0⟩, ⟨a', n', cap', b', o', rfl, hF', x1⟩⟩, rfl⟩
end Gal
namespace Go.Proofs.Ytchngeagnlngaaa
open Go.RowKit Gal
set_option maxRecDepth 100000
set_option maxHeartbeats 2000000
theorem batchCheck_any (d : Bat) (v : Value) (w : World) (h : BatAt w v d) : Calls Try.prog 103 #[v] w fun e w' => e = .returned (errV d.fault) ∧ Below w.heap.size w w' := by
 obtain ⟨a, n, k, b, o, a', n', k', b', o', rfl, x0, x1⟩ := h
 by_cases h1 : d.I.fault = 0
 ·have HE1 : Hid (errV (matFault d.I.rows d.I.cols d.I.cells) = .nilIface) := Lib.hid (errV_nil h1)
  by_cases h2 : d.W.fault = 0
  ·have HE2 : Hid (errV (matFault d.W.rows d.W.cols d.W.cells) = .nilIface) := Lib.hid (errV_nil h2)
   have HF : Hid (d.fault = if d.I.rows ≠ d.W.rows ∨ d.I.rows < 1 then 2 else 0) := Lib.hid (by unfold Bat.fault; rw [if_neg (by simp [h1]), if_neg (by simp [h2])])
   clear h1 h2
   rw [HF.out]
   by_cases h3 : d.I.rows = d.W.rows
   ·have q3 : (d.I.rows != d.W.rows) = false := by simp [h3]
    by_cases h4 : d.I.rows < 1
    ·rw [if_pos (Or.inr h4), errV_err (by decide)]
     clear h3
     go_enter Try.func103, Try.ntmps103
     go_wp2_with fail
     refine (matCheck_any _ _ _ _ _ _ _ d.I.cells _ (x0.alloc _)).mono ?_
     rw [HE1.out]
     rintro e w1 ⟨rfl, hb1⟩
     have B1 := ((show Box _ w.heap.size [.int .i64 d.I.rows, .int .i64 d.I.cols, .slice a n k, .int .i64 d.W.rows, .int .i64 d.W.cols, .slice a' n' k'] 30 from Box.x0)).keep hb1
     have B1c := B1.cell
     have B1f := B1.thawed
     have B1z := B1.lt
     have B1k := lt_add B1z
     have hkw1 : Below w.heap.size w w1 := (Below.x1 hb1)
     replace x1 := x1.keep hkw1
     have hsw1 := hkw1.size
     go_wp2_with fail
     refine (matCheck_any _ _ _ _ _ _ _ d.W.cells _ x1).mono ?_
     rw [HE2.out]
     rintro e w2 ⟨rfl, hb2⟩
     have hkw2 : Below w1.heap.size w1 w2 := (Below.x1 hb2)
     replace B1 := B1.keep hkw2
     replace B1c := B1.cell
     replace B1f := B1.thawed
     replace B1z := B1.lt
     replace B1k := lt_add B1z
     have hsw2 := hkw2.size
     go_wp2
     go_ret
     exact ⟨rfl, (Below.x2 hb2 hb1)⟩
    ·rw [if_neg (by rintro (q | q); exact q h3; exact h4 q), errV_nil rfl]
     clear h3
     go_enter Try.func103, Try.ntmps103
     go_wp2_with fail
     refine (matCheck_any _ _ _ _ _ _ _ d.I.cells _ (x0.alloc _)).mono ?_
     rw [HE1.out]
     rintro e w1 ⟨rfl, hb1⟩
     have B1 := ((show Box _ w.heap.size [.int .i64 d.I.rows, .int .i64 d.I.cols, .slice a n k, .int .i64 d.W.rows, .int .i64 d.W.cols, .slice a' n' k'] 30 from Box.x0)).keep hb1
     have B1c := B1.cell
     have B1f := B1.thawed
     have B1z := B1.lt
     have B1k := lt_add B1z
     have hkw1 : Below w.heap.size w w1 := (Below.x1 hb1)
     replace x1 := x1.keep hkw1
     have hsw1 := hkw1.size
     go_wp2_with fail
     refine (matCheck_any _ _ _ _ _ _ _ d.W.cells _ x1).mono ?_
     rw [HE2.out]
     rintro e w2 ⟨rfl, hb2⟩
     have hkw2 : Below w1.heap.size w1 w2 := (Below.x1 hb2)
     replace B1 := B1.keep hkw2
     replace B1c := B1.cell
     replace B1f := B1.thawed
     replace B1z := B1.lt
     replace B1k := lt_add B1z
     have hsw2 := hkw2.size
     go_wp2
     go_ret
     exact ⟨rfl, (Below.x2 hb2 hb1)⟩
   ·have q3 : (d.I.rows != d.W.rows) = true := by simp [h3]
    rw [if_pos (Or.inl h3), errV_err (by decide)]
    clear h3
    go_enter Try.func103, Try.ntmps103
    go_wp2_with fail
    refine (matCheck_any _ _ _ _ _ _ _ d.I.cells _ (x0.alloc _)).mono ?_
    rw [HE1.out]
    rintro e w1 ⟨rfl, hb1⟩
    have B1 := ((show Box _ w.heap.size [.int .i64 d.I.rows, .int .i64 d.I.cols, .slice a n k, .int .i64 d.W.rows, .int .i64 d.W.cols, .slice a' n' k'] 30 from Box.x0)).keep hb1
    have B1c := B1.cell
    have B1f := B1.thawed
    have B1z := B1.lt
    have B1k := lt_add B1z
    have hkw1 : Below w.heap.size w w1 := (Below.x1 hb1)
    replace x1 := x1.keep hkw1
    have hsw1 := hkw1.size
    go_wp2_with fail
    refine (matCheck_any _ _ _ _ _ _ _ d.W.cells _ x1).mono ?_
    rw [HE2.out]
    rintro e w2 ⟨rfl, hb2⟩
    have hkw2 : Below w1.heap.size w1 w2 := (Below.x1 hb2)
    replace B1 := B1.keep hkw2
    replace B1c := B1.cell
    replace B1f := B1.thawed
    replace B1z := B1.lt
    replace B1k := lt_add B1z
    have hsw2 := hkw2.size
    go_wp2
    go_ret
    exact ⟨rfl, (Below.x2 hb2 hb1)⟩
  ·have HE2 : Hid (errV (matFault d.W.rows d.W.cols d.W.cells) = .iface 62 (.int .i64 d.W.fault)) := Lib.hid (errV_err h2)
   have HF : Hid (errV d.fault = .iface 62 (.int .i64 d.W.fault)) := Lib.hid (by unfold Bat.fault; rw [if_neg (by simp [h1]), if_pos h2]; exact errV_err h2)
   clear h1 h2
   rw [HF.out]
   go_enter Try.func103, Try.ntmps103
   go_wp2_with fail
   refine (matCheck_any _ _ _ _ _ _ _ d.I.cells _ (x0.alloc _)).mono ?_
   rw [HE1.out]
   rintro e w1 ⟨rfl, hb1⟩
   have B1 := ((show Box _ w.heap.size [.int .i64 d.I.rows, .int .i64 d.I.cols, .slice a n k, .int .i64 d.W.rows, .int .i64 d.W.cols, .slice a' n' k'] 30 from Box.x0)).keep hb1
   have B1c := B1.cell
   have B1f := B1.thawed
   have B1z := B1.lt
   have B1k := lt_add B1z
   have hkw1 : Below w.heap.size w w1 := (Below.x1 hb1)
   replace x1 := x1.keep hkw1
   have hsw1 := hkw1.size
   go_wp2_with fail
   refine (matCheck_any _ _ _ _ _ _ _ d.W.cells _ x1).mono ?_
   rw [HE2.out]
   rintro e w2 ⟨rfl, hb2⟩
   go_wp2
   go_ret
   exact ⟨rfl, (Below.x2 hb2 hb1)⟩
 ·have HE1 : Hid (errV (matFault d.I.rows d.I.cols d.I.cells) = .iface 62 (.int .i64 d.I.fault)) := Lib.hid (errV_err h1)
  have HF : Hid (errV d.fault = .iface 62 (.int .i64 d.I.fault)) := Lib.hid (by unfold Bat.fault; rw [if_pos h1]; exact errV_err h1)
  clear h1
  rw [HF.out]
  go_enter Try.func103, Try.ntmps103
  go_wp2_with fail
  refine (matCheck_any _ _ _ _ _ _ _ d.I.cells _ (x0.alloc _)).mono ?_
  rw [HE1.out]
  rintro e w1 ⟨rfl, hb1⟩
  go_wp2
  go_ret
  exact ⟨rfl, (Below.x1 hb1)⟩
theorem batchSizes_bad (r p : Int) (w : World) (hf : sizesFault r p ≠ 0) :
  Calls Try.prog 104 #[.int .i64 r, .int .i64 p] w fun e w' => e = .returned (.tuple #[.slice none 0 0, .iface 62 (.int .i64 (sizesFault r p))]) ∧ w = w' := by
 by_cases h1 : r < 1 ∨ 24 < r ∨ p < 1 ∨ 12 < p
 ·have h0 : sizesFault r p = 1 := if_pos h1
  rw [h0]
  clear hf h0
  go_enter Try.func104, Try.ntmps104
  by_cases q1 : r < 1
  ·go_wp2
   go_ret2
   exact ⟨rfl, rfl⟩
  ·by_cases q2 : 24 < r
   ·go_wp2
    go_ret2
    exact ⟨rfl, rfl⟩
   ·by_cases q3 : p < 1
    ·go_wp2
     go_ret2
     exact ⟨rfl, rfl⟩
    ·have q4 : 12 < p := by omega
     go_wp2
     go_ret2
     exact ⟨rfl, rfl⟩
 ·have h2 : r < p := by
   rcases Int.lt_or_le r p with h | h
   ·exact h
   ·exact absurd (show sizesFault r p = 0 by unfold sizesFault; rw [if_neg h1, if_neg (by omega)]) hf
  have h0 : sizesFault r p = 2 := by unfold sizesFault; rw [if_neg h1, if_pos h2]
  rw [h0]
  have q1 : ¬ r < 1 := by omega
  have q2 : ¬ 24 < r := by omega
  have q3 : ¬ p < 1 := by omega
  have q4 : ¬ 12 < p := by omega
  clear hf h0 h1
  go_enter Try.func104, Try.ntmps104
  go_wp2
  go_ret2
  exact ⟨rfl, rfl⟩
end Go.Proofs.Ytchngeagnlngaaa
end
section
set_option linter.unusedVariables false
set_option linter.unusedSimpArgs false
set_option linter.unusedSectionVars false
namespace Gal
open Go Go.RowKit
theorem own_one {α : Type} {f : Form α} {E : TypeId} {w : World} {base b : Nat} {F : Nat → Prop} {cs : List Value} {x : α} (h : Box w b cs E) (hr : f.reads w (fun c => F c ∧ c ≠ b) cs x) (hb : base ≤ b) : OwnRow f E w base F (.slice (some ⟨b, 0, none⟩) 1 1) [x] := by
 have hl := f.len hr
 refine ⟨cs, ⟨by simp [hl], Or.inr ⟨b, 1, cs.toArray, rfl, hb, h, Nat.le_refl _, by unfold maxLen; omega, by simp [hl], by show List.take (1 * f.size) cs = cs; rw [Nat.one_mul, ← hl]; simp⟩⟩, Flat.single (f.wide (fun c hc _ => ⟨hc.1, fun e => hc.2 ?_⟩) hr)⟩
 simp [Value.ownBlock] at e
 exact e.symm
theorem IntsAt.grown {w w' : World} {a : Option Addr} {n cap b off : Nat} {xs : List Int} {row : Option Nat} (h : IntsAt w a n cap b off xs) (hg : w.grownBy w' row) (hne : 0 < n → some b ≠ row) : IntsAt w' a n cap b off xs :=
 ⟨h.len, h.le, h.maxc, h.ptr, fun hn => Nat.lt_of_lt_of_le (h.lt hn) hg.size, fun i hi => (World.cell?_of_block (a := ⟨b, off + i, none⟩) (hg.block b (h.lt (by omega)) (hne (by omega)))).trans (h.cell i hi)⟩
end Gal
end
