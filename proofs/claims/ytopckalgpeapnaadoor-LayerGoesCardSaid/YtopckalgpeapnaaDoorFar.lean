/- Worlds that differ in some blocks alone. Over any program. -/
import Derived.Test.YtopckalgpeapnaaDoorFrm
import Derived.StillTailTactics
set_option linter.unusedVariables false
set_option linter.unusedSimpArgs false
namespace Gal
open Go Go.RowKit

/-- w' is w with new blocks, and with writes to blocks of S alone -/
structure Far (S : Nat → Prop) (w w' : World) : Prop where
  os : w'.os = w.os
  tape : w'.tape = w.tape
  output : w'.output = w.output
  size : w.heap.size ≤ w'.heap.size
  block : ∀ k, k < w.heap.size → ¬ S k → w'.heap[k]? = w.heap[k]?
theorem Far.refl (S : Nat → Prop) (w : World) : Far S w w := ⟨rfl, rfl, rfl, Nat.le_refl _, fun _ _ _ => rfl⟩
theorem Far.wide {S T : Nat → Prop} {w w' : World} (h : Far S w w') (hS : ∀ k, k < w.heap.size → S k → T k) : Far T w w' := ⟨h.os, h.tape, h.output, h.size, fun k hk hT => h.block k hk (fun hs => hT (hS k hk hs))⟩
theorem Far.trans {S : Nat → Prop} {a b c : World} (h : Far S a b) (k : Far S b c) : Far S a c :=
  ⟨k.os.trans h.os, k.tape.trans h.tape, k.output.trans h.output, Nat.le_trans h.size k.size, fun i hi hs => (k.block i (Nat.lt_of_lt_of_le hi h.size) hs).trans (h.block i hi hs)⟩
theorem Far.below {S : Nat → Prop} {w w' w'' : World} (h : Far S w w') {B : Nat} (hb : Below B w' w'') (hB : ∀ k, k < w.heap.size → ¬ S k → k < B) : Far S w w'' :=
  ⟨hb.os.trans h.os, hb.tape.trans h.tape, hb.output.trans h.output, Nat.le_trans h.size hb.size, fun k hk hs => (hb.block k (hB k hk hs)).trans (h.block k hk hs)⟩
theorem Far.go {S : Nat → Prop} {w w' w'' : World} (h : Far S w w') (hb : Below w'.heap.size w' w'') : Far S w w'' := h.below hb fun k hk _ => Nat.lt_of_lt_of_le hk h.size
theorem Far.al {S : Nat → Prop} {w w' : World} (h : Far S w w') (o : Obj) : Far S w (w'.alloc o) := h.go ((Below.refl w'.heap.size w').alloc (Nat.le_refl _) o)
theorem Far.drN {S : Nat → Prop} {w w' : World} (h : Far S w w') (n : Nat) : Far S w (w'.drewN n) := h.go ⟨rfl, rfl, rfl, Nat.le_refl _, fun _ _ => rfl⟩
theorem Far.drew {S : Nat → Prop} {w w' : World} (h : Far S w w') : Far S w w'.drew := h.drN 1
theorem Far.st {S : Nat → Prop} {w w' : World} (h : Far S w w') {a : Addr} (ha : a.block < w.heap.size → S a.block) (u : Value) : Far S w (w'.setCell a u) :=
  ⟨h.os, h.tape, h.output, by simpa [World.setCell] using h.size, fun k hk hs => (Below.heap_setCell w' a u k (fun e => hs (by rw [e]; exact ha (by rw [← e]; exact hk)))).trans (h.block k hk hs)⟩
theorem Far.grown {S : Nat → Prop} {w w' w'' : World} {row : Option Nat} (h : Far S w w') (hg : w'.grownBy w'' row) (hr : ∀ k, row = some k → k < w.heap.size → S k) : Far S w w'' :=
  ⟨hg.os.trans h.os, hg.tape.trans h.tape, hg.output.trans h.output, Nat.le_trans h.size hg.size, fun k hk hs => (hg.block k (Nat.lt_of_lt_of_le hk h.size) (fun e => hs (hr k e.symm hk))).trans (h.block k hk hs)⟩
theorem Far.of_below {S : Nat → Prop} {w w' : World} (h : Below w.heap.size w w') : Far S w w' := (Far.refl S w).go h
/-- what was below a bound is still so, where S lies above it -/
theorem Far.toBelow {S : Nat → Prop} {a w w' : World} {B : Nat} (h : Below B a w) (hf : Far S w w') (hB : B ≤ w.heap.size) (hS : ∀ k, S k → B ≤ k) : Below B a w' :=
  h.trans ⟨hf.os, hf.tape, hf.output, hf.size, fun k hk => hf.block k (by omega) (fun hs => by have := hS k hs; omega)⟩
theorem Box.farS {S : Nat → Prop} {w w' : World} {b : Nat} {cs : List Value} {t : TypeId} (h : Box w b cs t) (hf : Far S w w') (hs : ¬ S b) : Box w' b cs t := h.block (hf.block b h.lt hs)
theorem IntsAt.farS {S : Nat → Prop} {w w' : World} {a : Option Addr} {n cap b off : Nat} {xs : List Int} (h : IntsAt w a n cap b off xs) (hf : Far S w w') (hs : 0 < n → ¬ S b) : IntsAt w' a n cap b off xs :=
  ⟨h.len, h.le, h.maxc, h.ptr, fun hn => Nat.lt_of_lt_of_le (h.lt hn) hf.size, fun i hi => (World.cell?_of_block (a := ⟨b, off + i, none⟩) (hf.block b (h.lt (by omega)) (hs (by omega)))).trans (h.cell i hi)⟩
theorem reads_farS {α : Type} {f : Form α} {S : Nat → Prop} {w w' : World} {F : Nat → Prop} {cs : List Value} {x : α} (h : f.reads w F cs x) (hf : Far S w w') (hs : ∀ b, F b → b < w.heap.size → ¬ S b) : f.reads w' F cs x := f.keep (fun k hk hl => hf.block k hl (hs k hk hl)) h
theorem RowAt.farS {α : Type} {f : Form α} {S : Nat → Prop} {w w' : World} {F : Nat → Prop} {a : Option Addr} {n cap b off : Nat} {xs : List α} (h : RowAt f w F a n cap b off xs) (hf : Far S w w') (hs : ∀ b, F b → b < w.heap.size → ¬ S b) : RowAt f w' F a n cap b off xs :=
  h.kept fun k hk hl => hf.block k hl (hs k hk hl)
theorem OwnRow.farS {α : Type} {f : Form α} {E : TypeId} {S : Nat → Prop} {w w' : World} {base : Nat} {F : Nat → Prop} {v : Value} {xs : List α} (h : OwnRow f E w base F v xs) (hf : Far S w w')
    (hv : ∀ b, v.ownBlock = some b → ¬ S b) (hs : ∀ b, F b → v.ownBlock ≠ some b → b < w.heap.size → ¬ S b) : OwnRow f E w' base F v xs :=
  h.kept (fun b hb => hf.block b (h.base_le b hb).2 (hv b hb)) (fun b hb hb' hl => hf.block b hl (hs b hb hb' hl))
theorem Box.icell {w : World} {b : Nat} {xs : List Int} {t : TypeId} (h : Box w b (xs.map (Value.int .i64)) t) {k : Nat} (hk : k < xs.length) : w.cell? ⟨b, k, none⟩ = some (.int .i64 (ix xs k)) := by
  rw [h.cell, List.getElem?_map, List.getElem?_eq_getElem hk]
  unfold ix
  rw [List.getElem?_eq_getElem hk]
  rfl
theorem Box.iset {w : World} {b : Nat} {xs : List Int} {t : TypeId} (h : Box w b (xs.map (Value.int .i64)) t) (k : Nat) (x : Int) : Box (w.setCell ⟨b, k, none⟩ (.int .i64 x)) b ((xs.set k x).map (Value.int .i64)) t := by
  rw [List.map_set]
  exact h.set k _
theorem still0 {P : Program} {f : FuncId} {args : Array Value} {w : World} {v : Value} (h : Calls P f args w fun e w' => e = .returned v ∧ w = w') : Calls P f args w fun e w' => e = .returned v ∧ w' = w := h.mono fun _ _ ⟨he, hw⟩ => ⟨he, hw.symm⟩
end Gal
