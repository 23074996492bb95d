/- Texts joined: Range. -/
import Derived.RangeFuncWrites
import Derived.RangeFuncCalls
import Derived.RangeFuncBound
import Derived.RangeFuncNested
import Derived.Below
section
set_option linter.unusedVariables false
set_option linter.unusedSimpArgs false
namespace Gal
open Go Go.RowKit
def Book (k : Nat) (r : Loop) (W : World) : Prop := W.heap[k + 1]? = some (.loop r) ∧ W.heap[k]? = some (.deferred (some []))
theorem Book.grown {k : Nat} {r : Loop} {A B : World} {row : Option Nat} (h : Book k r A) (hg : A.grownBy B row) (hr : ∀ j, row = some j → ∃ o : Obj, A.heap[j]? = some o ∧ o.isWalk = true) : Book k r B :=
 ⟨(grownBy_keeps hg hr h.1 rfl).trans h.1, (grownBy_keeps hg hr h.2 rfl).trans h.2⟩
theorem Book.put {k : Nat} {r : Loop} {W : World} (h : Book k r W) (r' : Loop) : Book k r' (W.putObj (k + 1) (.loop r')) :=
 ⟨World.putObj_heap_same (Array.getElem?_eq_some_iff.1 h.1).1, (World.putObj_heap_other (by omega)).trans h.2⟩
theorem Book.kept {k : Nat} {r : Loop} {A B : World} (h : Book k r A) (hk : KeepsFrom k A B) : Book k r B := ⟨hk.same _ _ (by omega) h.1 rfl, hk.same _ _ (Nat.le_refl _) h.2 rfl⟩
def roundEnds {α : Type} (B : Nat) (Kp : World → World → Prop) (I Ix : List α → World → Prop) (xs : List α) (W : World) : Exit → Act → World → Prop
 | .normal, _, W' => KeepsFrom B W W' ∧ Kp W W' ∧ I xs W'
 | .ret, _, W' => KeepsFrom B W W' ∧ Ix xs W'
 | _, _, _ => False
section
variable {F : Fence} {n : Nat} {P : Program}
theorem wpIn_range_boxed {α : Type} {g : Operand} {ps : Array Tmp} {assign body : Code} {Q : Exit → Act → World → Prop} {a : Act} {w : World}
  (hro : F.round = none) (h1 : 1 ≤ n) {gf : Nat} {lb : Array Value} (hg : a.eval g = .func (.func gf) #[] lb) (hFg : F.fn gf) (eg : ∀ args w, (callFunc gf args).run P w = .ok (.enter gf args) w)
  {encs : α → Array Value} {Kp : World → World → Prop} {S Sp : List α → Prop} {N : Nat} {w0 : World} (hseq : SeqStopsK F (n - 1) P gf lb encs Kp S Sp N w0)
  (hKt : ∀ {A B C : World}, Kp A B → Kp B C → Kp A C) (hKb : ∀ (W : World) (l : Nat) (o o' : Obj), w.heap.size ≤ l → W.heap[l]? = some o → o.isCells = false → o.isWalk = false → Kp W (W.putObj l o')) (hb0 : Below w0.heap.size w0 w) (hps : ∀ x, (encs x).size = ps.size)
  (I Ix : List α → World → Prop) (IA : α → Act → List α → World → Prop) (hI : OwnFrom w.heap.size I) (hIx : OwnFrom w.heap.size Ix) (hIA : ∀ x b, OwnFrom w.heap.size (IA x b)) (h0 : I [] w)
  (hassign : ∀ (l : Nat) (pre : List α) (x : α) (W : World), I pre W → pre.length < N →
   assign.wpIn (F.inRound l) (n - 1 - 1) P (Exit.then (fun b W' => KeepsFrom w.heap.size W W' ∧ Kp W W' ∧ IA x b pre W') (fun _ _ _ => False)) { tmps := (ps.zip (encs x)).foldl (fun t (p, v) => t.setIfInBounds p v) a.tmps, defers := [] } W)
  (hbody : ∀ (l : Nat) (pre : List α) (x : α) (b : Act) (W : World), IA x b pre W → pre.length < N → body.wpIn (F.inRound l) (n - 1 - 1) P (roundEnds w.heap.size Kp I Ix (pre ++ [x]) W) b W)
  (hdone : ∀ (D : Nat) (xs : List α) (W : World), w.heap.size ≤ D → S xs → I xs W → W.heap[D]? = some (.deferred (some [])) → Q .normal { a with defers := { target := .collected D, args := #[] } :: a.defers } W)
  (hstop : ∀ (D : Nat) (pre : List α) (W : World), w.heap.size ≤ D → Sp pre → Ix pre W → W.heap[D]? = some (.deferred (some [])) → Code.ret.wpIn F n P Q { a with defers := { target := .collected D, args := #[] } :: a.defers } W) :
  (Code.rangeFunc g ps assign body).wpIn F n P Q a w := by
 refine wpIn_rangeFunc fun fn hfn => ?_
 rw [hro]
 obtain ⟨rc, hrc⟩ : ∃ rc : LoopState → Option Code → Loop, rc = fun st pe => { state := st, pending := pe, fn, tmps := a.tmps, params := ps, assign, body, defers := w.heap.size } := ⟨_, rfl⟩
 obtain ⟨W1, hW1⟩ : ∃ W1, (w.alloc (.deferred (some []))).alloc (.loop (rc .ready none)) = W1 := ⟨_, rfl⟩
 have hz1 : W1.heap.size = w.heap.size + 1 + 1 := by rw [← hW1]; simp
 have bk1 : Book w.heap.size (rc .ready none) W1 := by
  rw [← hW1]
  refine ⟨?_, (Below.heap_alloc _ _ _ (by simp)).trans (World.alloc_heap_new w _)⟩
  have := World.alloc_heap_new (w.alloc (.deferred (some []))) (.loop (rc .ready none))
  rwa [World.size_alloc] at this
 have i1 : I [] W1 := by rw [← hW1]; exact hI.alloc _ (hI.alloc _ h0)
 have b1 : Below w0.heap.size w0 W1 := by rw [← hW1]; exact hb0.trans ((((Below.refl _ w).alloc (Nat.le_refl _) _).alloc (by simp) _).mono hb0.size)
 refine ⟨w.heap.size + 1, [{ target := .collected w.heap.size, args := #[] }], W1, { target := .fn (.func gf) lb, args := #[.func (.yield (w.heap.size + 1)) #[] #[]] }, W1, gf, #[.func (.yield (w.heap.size + 1)) #[] #[]] ++ lb, W1, ?_, ?_, ?_, ?_, fun _ => h1, ?_⟩
 ·rw [← hW1, hrc]; exact run_enterLoop_outer _ _ _ _ _
 ·simp only [resolve, hg]; simp [go_sem]
 ·intro f' hf'; simp [Target.leads] at hf'; subst hf'; exact hFg
 ·simp [invoke, go_sem, eg]
 have far : ∀ {A : World} {row : Option Nat}, (∀ r, row = some r → W1.heap.size ≤ r ∧ ∃ o : Obj, A.heap[r]? = some o ∧ o.isWalk = true) → ∀ r, row = some r → w.heap.size ≤ r ∧ ∃ o : Obj, A.heap[r]? = some o ∧ o.isCells = false := fun hr r e => by
  obtain ⟨hB, o, ho, hw⟩ := hr r e
  exact ⟨by omega, o, ho, Obj.not_cells_of_walk hw⟩
 refine (hseq (w.heap.size + 1) (fun pre W => I pre W ∧ Book w.heap.size (rc .ready none) W) (fun pre W => Ix pre W ∧ Book w.heap.size (rc .done (some .ret)) W) W1 b1
  (fun s A B row hs hg' hr => ⟨hI s A B row hs.1 hg' (far hr), hs.2.grown hg' (fun r e => (hr r e).2)⟩)
  (fun s A B row hs hg' hr => ⟨hIx s A B row hs.1 hg' (far hr), hs.2.grown hg' (fun r e => (hr r e).2)⟩) ?_ ⟨i1, bk1⟩).mono ?_
 ·rintro pre x W ⟨hi, bk⟩ hlen
  have hy := run_yield (P := P) (args := encs x) bk.1 (by rw [hrc]; exact hps x)
  rw [hrc] at hy
  refine ⟨fn, _, assign, body, hy, roundIn_of_wpIn hfn (wpIn_mono (hassign _ pre x W hi hlen) ?_)⟩
  rintro e b W' hp
  cases e with
  | normal =>
   obtain ⟨k1, p1, ia⟩ := hp
   have bk' := bk.kept k1
   refine ⟨_, run_beginRound bk'.1 (by rw [hrc]), ?_⟩
   have bk2 := bk'.put { rc .ready none with state := .busy }
   refine wpIn_mono (hbody _ pre x b _ ((hIA x b).putObj _ ia (by omega) bk'.1 rfl) hlen) ?_
   have p2 : Kp W' _ := hKb W' (w.heap.size + 1) _ (.loop { rc .ready none with state := .busy }) (by omega) bk'.1 rfl rfl
   have fin : ∀ (jump : Option Code) (W3 : World), Book w.heap.size { rc .ready none with state := .busy } W3 →
     (Instr.endRound (w.heap.size + 1) jump).run P W3 = .ok (.bool jump.isNone) (W3.putObj (w.heap.size + 1) (.loop (rc (if jump.isNone then .ready else .done) jump))) := fun jump W3 b3 => by
    have := run_endRound (P := P) jump b3.1
    rw [hrc] at this ⊢
    exact this
   rintro e3 a3 W3 hq
   cases e3 with
   | normal =>
    obtain ⟨k3, p3, i3⟩ := hq
    have b3 := bk2.kept k3
    exact ⟨_, _, fin none W3 b3, .inl ⟨rfl, ⟨hI.putObj _ i3 (by omega) b3.1 rfl, b3.put _⟩, hKt p1 (hKt p2 (hKt p3 (hKb _ _ _ _ (by omega) b3.1 rfl rfl)))⟩⟩
   | ret =>
    obtain ⟨k3, i3⟩ := hq
    have b3 := bk2.kept k3
    exact ⟨_, _, fin (some .ret) W3 b3, .inr ⟨rfl, hIx.putObj _ i3 (by omega) b3.1 rfl, b3.put _⟩⟩
   | _ => exact hq.elim
  | _ => exact hp.elim
 ·rintro e W2 ⟨⟨v, rfl⟩, (⟨xs, hS, hi, bk⟩ | ⟨pre, hSp, hi, bk⟩)⟩
  ·have hr := run_endLoop (P := P) bk.1 (by rw [hrc]; simp)
   rw [hrc] at hr
   exact ⟨none, _, hr, hdone _ xs _ (Nat.le_refl _) hS (hI.putObj _ hi (by omega) bk.1 rfl) ((World.putObj_heap_other (by omega)).trans bk.2)⟩
  ·have hr := run_endLoop (P := P) bk.1 (by rw [hrc]; simp)
   rw [hrc] at hr
   exact ⟨some .ret, _, hr, hstop _ pre _ (Nat.le_refl _) hSp (hIx.putObj _ hi (by omega) bk.1 rfl) ((World.putObj_heap_other (by omega)).trans bk.2)⟩
end
end Gal
end
