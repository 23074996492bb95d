/- Texts joined: BaseR. -/
import Derived.Test.YtchngeagnlngaaaDoorJ02
import Derived.WalkKit
import Derived.Lib.Hide
import Derived.Deep.QuietTactic
import Derived.Deep.Draws
import Derived.Outline
import Derived.Deep.AppendSrc
import Derived.Deep.AppendLies
import Derived.StillTailTactics
section
section
set_option linter.unusedVariables false
set_option linter.unusedSimpArgs false
namespace Gal
open Go Go.RowKit
structure IntsAt (w : World) (a : Option Addr) (n cap b off : Nat) (xs : List Int) : Prop where
 len : xs.length = n
 le : n ≤ cap
 maxc : cap ≤ maxLen
 ptr : 0 < n → a = some ⟨b, off, none⟩
 lt : 0 < n → b < w.heap.size
 cell : ∀ i, i < n → w.cell? ⟨b, off + i, none⟩ = some (.int .i64 (ix xs i))
theorem IntsAt.max {w : World} {a : Option Addr} {n cap b off : Nat} {xs : List Int} (h : IntsAt w a n cap b off xs) : n ≤ maxLen := Nat.le_trans h.le h.maxc
theorem IntsAt.below {w w' : World} {a : Option Addr} {n cap b off : Nat} {xs : List Int} (h : IntsAt w a n cap b off xs) {B : Nat} (hb : Below B w w') (hB : 0 < n → b < B) : IntsAt w' a n cap b off xs :=
 ⟨h.len, h.le, h.maxc, h.ptr, fun hn => Nat.lt_of_lt_of_le (h.lt hn) hb.size, fun i hi => (hb.cell (p := ⟨b, off + i, none⟩) (hB (by omega))).trans (h.cell i hi)⟩
theorem IntsAt.alloc {w : World} {a : Option Addr} {n cap b off : Nat} {xs : List Int} (h : IntsAt w a n cap b off xs) (o : Obj) : IntsAt (w.alloc o) a n cap b off xs :=
 h.below ((Below.refl w.heap.size w).alloc (Nat.le_refl _) o) h.lt
theorem IntsAt.drewN {w : World} {a : Option Addr} {n cap b off : Nat} {xs : List Int} (h : IntsAt w a n cap b off xs) (k : Nat) : IntsAt (w.drewN k) a n cap b off xs := h.below (B := w.heap.size) ⟨rfl, rfl, rfl, Nat.le_refl _, fun _ _ => rfl⟩ h.lt
def Box (w : World) (b : Nat) (cs : List Value) (t : TypeId) : Prop := w.heap[b]? = some (.cells cs.toArray t (0, 0))
theorem Box.lt {w : World} {b : Nat} {cs : List Value} {t : TypeId} (h : Box w b cs t) : b < w.heap.size := by
 rcases Nat.lt_or_ge b w.heap.size with h1 | h1
 ·exact h1
 ·unfold Box at h; rw [Array.getElem?_eq_none h1] at h; cases h
theorem Box.cell {w : World} {b : Nat} {cs : List Value} {t : TypeId} (h : Box w b cs t) (i : Nat) : w.cell? ⟨b, i, none⟩ = cs[i]? := by
 unfold Box at h; simp [World.cell?, h]
theorem Box.block {w w' : World} {b : Nat} {cs : List Value} {t : TypeId} (h : Box w b cs t) (e : w'.heap[b]? = w.heap[b]?) : Box w' b cs t := by
 unfold Box; rw [e]; exact h
theorem Box.drew {w : World} {b : Nat} {cs : List Value} {t : TypeId} (h : Box w b cs t) : Box w.drew b cs t := h
theorem Box.drewN {w : World} {b : Nat} {cs : List Value} {t : TypeId} (h : Box w b cs t) (n : Nat) : Box (w.drewN n) b cs t := h
theorem Box.alloc {w : World} {b : Nat} {cs : List Value} {t : TypeId} (h : Box w b cs t) (o : Obj) : Box (w.alloc o) b cs t := h.block (Below.heap_alloc w o b h.lt)
theorem Box.below {w w' : World} {b B : Nat} {cs : List Value} {t : TypeId} (h : Box w b cs t) (hb : Below B w w') (hB : b < B) : Box w' b cs t := h.block (hb.block b hB)
theorem Box.keep {w w' : World} {b : Nat} {cs : List Value} {t : TypeId} (h : Box w b cs t) (hb : Below w.heap.size w w') : Box w' b cs t := h.below hb h.lt
theorem Box.grown {w w' : World} {b : Nat} {row : Option Nat} {cs : List Value} {t : TypeId} (h : Box w b cs t) (hg : w.grownBy w' row) (hne : some b ≠ row) : Box w' b cs t := h.block (hg.block b h.lt hne)
theorem own_slice {w : World} {base e size n : Nat} {v : Value} {xs : List Value} (h : w.ownsRow base e size v n xs) : ∃ a cap, v = .slice a n cap := by
 rcases h.2 with ⟨rfl, rfl⟩ | ⟨g, cap, cur, rfl, _⟩
 ·exact ⟨none, 0, rfl⟩
 ·exact ⟨_, cap, rfl⟩
section
variable {H : Type} {P : Program}
end
theorem below_drewN {B : Nat} {a w : World} (h : Below B a w) (n : Nat) : Below B a (w.drewN n) := ⟨h.os, h.tape, h.output, h.size, h.block⟩
def MatAt (w : World) (v : Value) (m : Mat) : Prop := ∃ a n cap b off, v = .agg #[.int .i64 m.rows, .int .i64 m.cols, .slice a n cap] ∧ IntsAt w a n cap b off m.cells
structure MatsAt (w : World) (a : Option Addr) (n cap b off : Nat) (ms : List Mat) : Prop where
 len : ms.length = n
 le : n ≤ cap
 maxc : cap ≤ maxLen
 ptr : 0 < n → a = some ⟨b, off, none⟩
 lt : 0 < n → b < w.heap.size
 cell : ∀ i, i < n → ∃ a' n' cap' b' off', w.cell? ⟨b, off + i * 3, none⟩ = some (.int .i64 (mx ms i).rows) ∧ w.cell? ⟨b, off + i * 3 + 1, none⟩ = some (.int .i64 (mx ms i).cols) ∧
  w.cell? ⟨b, off + i * 3 + 2, none⟩ = some (.slice a' n' cap') ∧ (0 < n' → b' < w.heap.size) ∧ IntsAt w a' n' cap' b' off' (mx ms i).cells
theorem MatsAt.max {w : World} {a : Option Addr} {n cap b off : Nat} {ms : List Mat} (h : MatsAt w a n cap b off ms) : n ≤ maxLen := Nat.le_trans h.le h.maxc
section
variable {P : Program} {f : FuncId} {args : Array Value} {w : World} {a n : Nat} {v : Value}
end
end Gal
end
section
set_option linter.unusedVariables false
set_option linter.unusedSimpArgs false
namespace Gal
open Go Go.RowKit
theorem MatAt.mk {w : World} {a : Option Addr} {n cap b off : Nat} {xs : List Int} {r c : Int} (h : IntsAt w a n cap b off xs) : MatAt w (.agg #[.int .i64 r, .int .i64 c, .slice a n cap]) ⟨r, c, xs⟩ := ⟨a, n, cap, b, off, rfl, h⟩
theorem MatAt.below {w w' : World} {v : Value} {m : Mat} (h : MatAt w v m) (hb : Below w.heap.size w w') : MatAt w' v m := by
 obtain ⟨a, n, cap, b, off, rfl, hi⟩ := h
 exact ⟨a, n, cap, b, off, rfl, hi.below hb hi.lt⟩
theorem MatAt.alloc {w : World} {v : Value} {m : Mat} (h : MatAt w v m) (o : Obj) : MatAt (w.alloc o) v m := h.below ((Below.refl w.heap.size w).alloc (Nat.le_refl _) o)
theorem MatAt.drewN {w : World} {v : Value} {m : Mat} (h : MatAt w v m) (k : Nat) : MatAt (w.drewN k) v m := h.below ⟨rfl, rfl, rfl, Nat.le_refl _, fun _ _ => rfl⟩
theorem IntsAt.keep {w w' : World} {a : Option Addr} {n cap b off : Nat} {xs : List Int} (h : IntsAt w a n cap b off xs) (hb : Below w.heap.size w w') : IntsAt w' a n cap b off xs := h.below hb h.lt
end Gal
namespace Go.RowKit
open Gal
theorem Below.al {w w' : World} (h : Below w.heap.size w w') (o : Obj) : Below w.heap.size w (w'.alloc o) := h.alloc h.size o
theorem Below.go {w w' w'' : World} (h : Below w.heap.size w w') (k : Below w'.heap.size w' w'') : Below w.heap.size w w'' := h.trans (k.mono h.size)
theorem Below.st {w w' : World} (h : Below w.heap.size w w') {p : Addr} (hp : w.heap.size ≤ p.block) (u : Value) : Below w.heap.size w (w'.setCell p u) := h.setCell hp u
theorem Below.sx {w w' : World} {p : Addr} (h : Below w.heap.size w w') (u : Value) (hp : w.heap.size ≤ p.block := by first | (dsimp only; omega) | omega | (simp; omega) | simp) : Below w.heap.size w (w'.setCell p u) := h.st hp u
theorem Below.drN {w w' : World} (h : Below w.heap.size w w') (n : Nat) : Below w.heap.size w (w'.drewN n) := below_drewN h n
def Below.T (B : Nat) (a b : World) : Prop := B ≤ a.heap.size → Below B a b ∧ B ≤ b.heap.size
theorem Below.T.refl (B : Nat) (a : World) : Below.T B a a := fun h => ⟨Below.refl _ _, h⟩
theorem Below.T.al {B : Nat} {a b : World} (h : Below.T B a b) (o : Obj) : Below.T B a (b.alloc o) := fun hB => ⟨(h hB).1.alloc (h hB).2 o, Nat.le_trans (h hB).2 ((Below.refl b.heap.size b).alloc (Nat.le_refl _) o).size⟩
theorem Below.T.drN {B : Nat} {a b : World} (h : Below.T B a b) (n : Nat) : Below.T B a (b.drewN n) := fun hB => ⟨below_drewN (h hB).1 n, (h hB).2⟩
theorem Below.T.drew {B : Nat} {a b : World} (h : Below.T B a b) : Below.T B a b.drew := h.drN 1
theorem Below.T.sx {B : Nat} {a b : World} {p : Addr} (h : Below.T B a b) (u : Value) (hp : B ≤ p.block := by first | (dsimp only; omega) | omega | (simp; omega) | simp) : Below.T B a (b.setCell p u) := fun hB => ⟨(h hB).1.setCell hp u, by have := (h hB).2; simpa [World.setCell] using this⟩
theorem Below.x0 {w w' : World} (h : Below w.heap.size w w' := by repeat (first | (with_reducible first | exact Below.refl _ _ | refine Below.al ?_ _ | refine Below.drN ?_ _ | refine Below.drew ?_ | refine Below.sx ?_ _) | exact Below.refl _ _)) : Below w.heap.size w w' := h
theorem Below.x1 {w a b w' : World} (k : Below a.heap.size a b) (h : Below.T w.heap.size b w' := by repeat (first | (with_reducible first | exact Below.T.refl _ _ | refine Below.T.al ?_ _ | refine Below.T.drN ?_ _ | refine Below.T.drew ?_ | refine Below.T.sx ?_ _) | exact Below.T.refl _ _)) (g : Below w.heap.size w a := by repeat (first | (with_reducible first | exact Below.refl _ _ | refine Below.al ?_ _ | refine Below.drN ?_ _ | refine Below.drew ?_ | refine Below.sx ?_ _) | exact Below.refl _ _)) : Below w.heap.size w w' := (g.go k).trans (h (g.go k).size).1
theorem Below.x2 {w a b c d w' : World} (k : Below c.heap.size c d) (l : Below a.heap.size a b) (h : Below.T w.heap.size d w' := by repeat (first | (with_reducible first | exact Below.T.refl _ _ | refine Below.T.al ?_ _ | refine Below.T.drN ?_ _ | refine Below.T.drew ?_ | refine Below.T.sx ?_ _) | exact Below.T.refl _ _)) (g : Below.T w.heap.size b c := by repeat (first | (with_reducible first | exact Below.T.refl _ _ | refine Below.T.al ?_ _ | refine Below.T.drN ?_ _ | refine Below.T.drew ?_ | refine Below.T.sx ?_ _) | exact Below.T.refl _ _)) (f : Below w.heap.size w a := by repeat (first | (with_reducible first | exact Below.refl _ _ | refine Below.al ?_ _ | refine Below.drN ?_ _ | refine Below.drew ?_ | refine Below.sx ?_ _) | exact Below.refl _ _)) : Below w.heap.size w w' := by
 have q := (f.go l).trans (g (f.go l).size).1
 exact (q.go k).trans (h (q.go k).size).1
theorem Below.y0 {w a w' : World} (k : Below w.heap.size w a) (h : Below.T w.heap.size a w' := by repeat (first | (with_reducible first | exact Below.T.refl _ _ | refine Below.T.al ?_ _ | refine Below.T.drN ?_ _ | refine Below.T.drew ?_ | refine Below.T.sx ?_ _) | exact Below.T.refl _ _)) : Below w.heap.size w w' := k.trans (h k.size).1
theorem Below.y1 {w a b c w' : World} (l : Below b.heap.size b c) (k : Below w.heap.size w a) (h : Below.T w.heap.size c w' := by repeat (first | (with_reducible first | exact Below.T.refl _ _ | refine Below.T.al ?_ _ | refine Below.T.drN ?_ _ | refine Below.T.drew ?_ | refine Below.T.sx ?_ _) | exact Below.T.refl _ _)) (g : Below.T w.heap.size a b := by repeat (first | (with_reducible first | exact Below.T.refl _ _ | refine Below.T.al ?_ _ | refine Below.T.drN ?_ _ | refine Below.T.drew ?_ | refine Below.T.sx ?_ _) | exact Below.T.refl _ _)) : Below w.heap.size w w' := by
 have q := k.trans (g k.size).1
 exact (q.go l).trans (h (q.go l).size).1
theorem Box.x0 {w : World} {b : Nat} {cs : List Value} {t : TypeId} (h : Box w b cs t := by repeat (first | (with_reducible first | (refine (Box.new' _ _ _ _ ?_); (simp; done)) | refine Box.alloc ?_ _ | refine Box.drewN ?_ _ | refine Box.drew ?_ | refine Box.fx ?_ _))) : Box w b cs t := h
def Same (b : Nat) (a w : World) : Prop := b < a.heap.size → w.heap[b]? = a.heap[b]? ∧ b < w.heap.size
theorem Same.refl (b : Nat) (a : World) : Same b a a := fun h => ⟨rfl, h⟩
theorem Same.al {b : Nat} {a w : World} (h : Same b a w) (o : Obj) : Same b a (w.alloc o) := fun hb => ⟨(Below.heap_alloc w o b (h hb).2).trans (h hb).1, Nat.lt_of_lt_of_le (h hb).2 ((Below.refl w.heap.size w).alloc (Nat.le_refl _) o).size⟩
theorem Same.drN {b : Nat} {a w : World} (h : Same b a w) (n : Nat) : Same b a (w.drewN n) := fun hb => ⟨(h hb).1, (h hb).2⟩
theorem Same.drew {b : Nat} {a w : World} (h : Same b a w) : Same b a w.drew := h.drN 1
theorem Same.sx {b : Nat} {a w : World} {p : Addr} (h : Same b a w) (u : Value) (hne : b ≠ p.block := by first | (dsimp only; omega) | omega | (simp; omega) | simp) : Same b a (w.setCell p u) := fun hb => ⟨(Below.heap_setCell w p u b hne).trans (h hb).1, by have := (h hb).2; simpa [World.setCell] using this⟩
theorem Same.go {b : Nat} {a x y w : World} (g : Same b a x) (hb : Below x.heap.size x y) (h : Same b y w) : Same b a w := fun hl => by
 have h1 := g hl
 have h2 := h (Nat.lt_of_lt_of_le h1.2 hb.size)
 exact ⟨h2.1.trans ((hb.block b h1.2).trans h1.1), h2.2⟩
end Go.RowKit
namespace Gal
open Go Go.RowKit
theorem Box.k {a w : World} {b : Nat} {cs : List Value} {t : TypeId} (k : Box a b cs t) (h : Same b a w := by repeat (first | (with_reducible first | exact Same.refl _ _ | refine Same.al ?_ _ | refine Same.drN ?_ _ | refine Same.drew ?_ | refine Same.sx ?_ _) | exact Same.refl _ _)) : Box w b cs t := k.block (h k.lt).1
theorem Box.k1 {a x y w : World} {b : Nat} {cs : List Value} {t : TypeId} (k : Box a b cs t) (hb : Below x.heap.size x y) (h : Same b y w := by repeat (first | (with_reducible first | exact Same.refl _ _ | refine Same.al ?_ _ | refine Same.drN ?_ _ | refine Same.drew ?_ | refine Same.sx ?_ _) | exact Same.refl _ _)) (g : Same b a x := by repeat (first | (with_reducible first | exact Same.refl _ _ | refine Same.al ?_ _ | refine Same.drN ?_ _ | refine Same.drew ?_ | refine Same.sx ?_ _) | exact Same.refl _ _)) : Box w b cs t := k.block ((g.go hb h) k.lt).1
theorem IntsAt.k {a w : World} {p : Option Addr} {n cap b off : Nat} {xs : List Int} (k : IntsAt a p n cap b off xs) (h : 0 < n → Same b a w := by intro h0; repeat (first | (with_reducible first | exact Same.refl _ _ | refine Same.al ?_ _ | refine Same.drN ?_ _ | refine Same.drew ?_ | refine Same.sx ?_ _) | exact Same.refl _ _)) : IntsAt w p n cap b off xs :=
 ⟨k.len, k.le, k.maxc, k.ptr, fun hn => (h hn (k.lt hn)).2, fun i hi => (World.cell?_of_block (a := ⟨b, off + i, none⟩) (h (by omega) (k.lt (by omega))).1).trans (k.cell i hi)⟩
theorem IntsAt.k1 {a x y w : World} {p : Option Addr} {n cap b off : Nat} {xs : List Int} (k : IntsAt a p n cap b off xs) (hb : Below x.heap.size x y) (h : 0 < n → Same b y w := by intro h0; repeat (first | (with_reducible first | exact Same.refl _ _ | refine Same.al ?_ _ | refine Same.drN ?_ _ | refine Same.drew ?_ | refine Same.sx ?_ _) | exact Same.refl _ _)) (g : 0 < n → Same b a x := by intro h0; repeat (first | (with_reducible first | exact Same.refl _ _ | refine Same.al ?_ _ | refine Same.drN ?_ _ | refine Same.drew ?_ | refine Same.sx ?_ _) | exact Same.refl _ _)) : IntsAt w p n cap b off xs := k.k (fun hn => (g hn).go hb (h hn))
end Gal
namespace Go.RowKit
open Gal
end Go.RowKit
end
section
set_option linter.unusedVariables false
set_option linter.unusedSimpArgs false
namespace Gal
open Go Go.RowKit
section
variable {P : Program} {w : World}
end
theorem MatsAt.keep {w w' : World} {a : Option Addr} {n cap b off : Nat} {ms : List Mat} (h : MatsAt w a n cap b off ms) (hb : Below w.heap.size w w') : MatsAt w' a n cap b off ms := by
 refine ⟨h.len, h.le, h.maxc, h.ptr, fun hn => Nat.lt_of_lt_of_le (h.lt hn) hb.size, fun i hi => ?_⟩
 have hlt := h.lt (by omega)
 obtain ⟨a', n', cap', b', off', m0, m1, m2, hb', hi'⟩ := h.cell i hi
 exact ⟨a', n', cap', b', off', (hb.cell (p := ⟨b, _, none⟩) hlt).trans m0, (hb.cell (p := ⟨b, _, none⟩) hlt).trans m1, (hb.cell (p := ⟨b, _, none⟩) hlt).trans m2, fun h0 => Nat.lt_of_lt_of_le (hb' h0) hb.size, hi'.keep hb⟩
def MatNew (base : Nat) (w : World) (v : Value) (m : Mat) : Prop := ∃ a n cap b off, v = .agg #[.int .i64 m.rows, .int .i64 m.cols, .slice a n cap] ∧ (0 < n → base ≤ b) ∧ IntsAt w a n cap b off m.cells
theorem MatNew.at {base : Nat} {w : World} {v : Value} {m : Mat} (h : MatNew base w v m) : MatAt w v m := by
 obtain ⟨a, n, cap, b, off, h1, _, h2⟩ := h
 exact ⟨a, n, cap, b, off, h1, h2⟩
theorem MatNew.mk {base : Nat} {w : World} {a : Option Addr} {n cap b off : Nat} {xs : List Int} {r c : Int} (hb : 0 < n → base ≤ b) (h : IntsAt w a n cap b off xs) : MatNew base w (.agg #[.int .i64 r, .int .i64 c, .slice a n cap]) ⟨r, c, xs⟩ := ⟨a, n, cap, b, off, rfl, hb, h⟩
end Gal
end
section
set_option linter.unusedVariables false
set_option linter.unusedSimpArgs false
namespace Gal
open Go Go.RowKit
theorem heap_lt {w : World} {b : Nat} {o : Obj} (h : w.heap[b]? = some o) : b < w.heap.size := by
 rcases Nat.lt_or_ge b w.heap.size with h1 | h1
 ·exact h1
 ·rw [Array.getElem?_eq_none h1] at h; cases h
theorem lt_of_heap {w w' : World} {b : Nat} (h : b < w.heap.size) (he : w'.heap[b]? = w.heap[b]?) : b < w'.heap.size := by
 rw [Array.getElem?_eq_getElem h] at he
 exact heap_lt he
structure Form (α : Type) where
 size : Nat
 reads : World → (Nat → Prop) → List Value → α → Prop
 len : ∀ {w F cs x}, reads w F cs x → cs.length = size
 one : ∀ {w F cs x}, reads w F cs x → ∀ u ∈ cs, u.oneCell' = true
 wide : ∀ {w F G cs x}, (∀ b, F b → b < w.heap.size → G b) → reads w F cs x → reads w G cs x
 keep : ∀ {w w' F cs x}, (∀ b, F b → b < w.heap.size → w'.heap[b]? = w.heap[b]?) → reads w F cs x → reads w' F cs x
def anyB (b : Nat) : Prop := True
def Form.int : Form Int where
 size := 1
 reads := fun _ _ cs x => cs = [.int .i64 x]
 len := fun h => by rw [h]; rfl
 one := fun h u hu => by rw [h] at hu; simp at hu; rw [hu]; rfl
 wide := fun _ h => h
 keep := fun _ h => h
structure RowAt {α : Type} (f : Form α) (w : World) (F : Nat → Prop) (a : Option Addr) (n cap b off : Nat) (xs : List α) : Prop where
 len : xs.length = n
 le : n ≤ cap
 maxc : cap ≤ maxLen
 ptr : 0 < n → a = some ⟨b, off, none⟩
 lt : 0 < n → b < w.heap.size
 blk : 0 < n → F b
 cell : ∀ i x, xs[i]? = some x → ∃ cs, f.reads w F cs x ∧ ∀ j, j < f.size → w.cell? ⟨b, off + i * f.size + j, none⟩ = cs[j]?
theorem RowAt.max {α : Type} {f : Form α} {w : World} {F : Nat → Prop} {a : Option Addr} {n cap b off : Nat} {xs : List α} (h : RowAt f w F a n cap b off xs) : n ≤ maxLen := Nat.le_trans h.le h.maxc
theorem RowAt.wide {α : Type} {f : Form α} {w : World} {F G : Nat → Prop} {a : Option Addr} {n cap b off : Nat} {xs : List α} (hF : ∀ b, F b → b < w.heap.size → G b) (h : RowAt f w F a n cap b off xs) : RowAt f w G a n cap b off xs :=
 ⟨h.len, h.le, h.maxc, h.ptr, h.lt, fun hn => hF _ (h.blk hn) (h.lt hn), fun i x hx => by
  obtain ⟨cs, h1, h2⟩ := h.cell i x hx
  exact ⟨cs, f.wide hF h1, h2⟩⟩
theorem RowAt.kept {α : Type} {f : Form α} {w w' : World} {F : Nat → Prop} {a : Option Addr} {n cap b off : Nat} {xs : List α} (hF : ∀ b, F b → b < w.heap.size → w'.heap[b]? = w.heap[b]?) (h : RowAt f w F a n cap b off xs) : RowAt f w' F a n cap b off xs :=
 ⟨h.len, h.le, h.maxc, h.ptr, fun hn => lt_of_heap (h.lt hn) (hF _ (h.blk hn) (h.lt hn)), h.blk, fun i x hx => by
  have hi : i < xs.length := by
   rcases Nat.lt_or_ge i xs.length with h1 | h1
   ·exact h1
   ·rw [List.getElem?_eq_none h1] at hx; cases hx
  have hn : 0 < n := by have := h.len; omega
  obtain ⟨cs, h1, h2⟩ := h.cell i x hx
  exact ⟨cs, f.keep hF h1, fun j hj => (World.cell?_of_block (a := ⟨b, off + i * f.size + j, none⟩) (hF _ (h.blk hn) (h.lt hn))).trans (h2 j hj)⟩⟩
theorem RowAt.keep {α : Type} {f : Form α} {w w' : World} {F : Nat → Prop} {a : Option Addr} {n cap b off : Nat} {xs : List α} (h : RowAt f w F a n cap b off xs) (hb : Below w.heap.size w w') : RowAt f w' F a n cap b off xs :=
 h.kept fun k _ hk => hb.block k hk
theorem RowAt.alloc {α : Type} {f : Form α} {w : World} {F : Nat → Prop} {a : Option Addr} {n cap b off : Nat} {xs : List α} (h : RowAt f w F a n cap b off xs) (o : Obj) : RowAt f (w.alloc o) F a n cap b off xs :=
 h.keep ((Below.refl w.heap.size w).alloc (Nat.le_refl _) o)
theorem RowAt.drewN {α : Type} {f : Form α} {w : World} {F : Nat → Prop} {a : Option Addr} {n cap b off : Nat} {xs : List α} (h : RowAt f w F a n cap b off xs) (k : Nat) : RowAt f (w.drewN k) F a n cap b off xs :=
 h.keep ⟨rfl, rfl, rfl, Nat.le_refl _, fun _ _ => rfl⟩
theorem RowAt.nil {α : Type} (f : Form α) (w : World) (F : Nat → Prop) : RowAt f w F none 0 0 0 0 ([] : List α) :=
 ⟨rfl, Nat.le_refl _, Nat.zero_le _, fun h => absurd h (Nat.lt_irrefl _), fun h => absurd h (Nat.lt_irrefl _), fun h => absurd h (Nat.lt_irrefl _), fun i x hx => by cases hx⟩
def Form.slice {α : Type} (f : Form α) : Form (List α) where
 size := 1
 reads := fun w F cs xs => ∃ a n cap b off, cs = [.slice a n cap] ∧ RowAt f w F a n cap b off xs
 len := fun ⟨a, n, cap, b, off, e, h⟩ => by rw [e]; rfl
 one := fun ⟨a, n, cap, b, off, e, h⟩ u hu => by rw [e] at hu; simp at hu; rw [hu]; rfl
 wide := fun hF ⟨a, n, cap, b, off, e, h⟩ => ⟨a, n, cap, b, off, e, h.wide hF⟩
 keep := fun hF ⟨a, n, cap, b, off, e, h⟩ => ⟨a, n, cap, b, off, e, h.kept hF⟩
def Form.mat : Form Mat where
 size := 3
 reads := fun w F cs m => ∃ a n cap b off, cs = [.int .i64 m.rows, .int .i64 m.cols, .slice a n cap] ∧ (0 < n → F b) ∧ IntsAt w a n cap b off m.cells
 len := fun ⟨a, n, cap, b, off, e, _, h⟩ => by rw [e]; rfl
 one := fun ⟨a, n, cap, b, off, e, _, h⟩ u hu => by
  rw [e] at hu
  simp at hu
  rcases hu with rfl | rfl | rfl <;> rfl
 wide := fun hF ⟨a, n, cap, b, off, e, hb, h⟩ => ⟨a, n, cap, b, off, e, fun hn => hF _ (hb hn) (h.lt hn), h⟩
 keep := fun {w w' F cs x} hF ⟨a, n, cap, b, off, e, hb, h⟩ => ⟨a, n, cap, b, off, e, hb, ⟨h.len, h.le, h.maxc, h.ptr, fun hn => lt_of_heap (h.lt hn) (hF _ (hb hn) (h.lt hn)), fun i hi =>
  (World.cell?_of_block (a := ⟨b, off + i, none⟩) (hF _ (hb (by omega)) (h.lt (by omega)))).trans (h.cell i hi)⟩⟩
def At {α : Type} (f : Form α) (w : World) (F : Nat → Prop) (v : Value) (x : α) : Prop := ∃ cs, v = .agg cs.toArray ∧ f.reads w F cs x
theorem At.keep {α : Type} {f : Form α} {w w' : World} {F : Nat → Prop} {v : Value} {x : α} (h : At f w F v x) (hb : Below w.heap.size w w') : At f w' F v x := by
 obtain ⟨cs, e, h⟩ := h
 exact ⟨cs, e, f.keep (fun k _ hk => hb.block k hk) h⟩
theorem At.wide {α : Type} {f : Form α} {w : World} {F G : Nat → Prop} {v : Value} {x : α} (hF : ∀ b, F b → b < w.heap.size → G b) (h : At f w F v x) : At f w G v x := by
 obtain ⟨cs, e, h⟩ := h
 exact ⟨cs, e, f.wide hF h⟩
theorem At.mat {w : World} {F : Nat → Prop} {v : Value} {m : Mat} (h : At Form.mat w F v m) : MatAt w v m := by
 obtain ⟨cs, rfl, a, n, cap, b, off, rfl, _, h⟩ := h
 exact ⟨a, n, cap, b, off, rfl, h⟩
theorem MatAt.at {w : World} {v : Value} {m : Mat} (h : MatAt w v m) : At Form.mat w anyB v m := by
 obtain ⟨a, n, cap, b, off, rfl, h⟩ := h
 exact ⟨_, rfl, a, n, cap, b, off, rfl, fun _ => trivial, h⟩
theorem IntsAt.row {w : World} {F : Nat → Prop} {a : Option Addr} {n cap b off : Nat} {xs : List Int} (h : IntsAt w a n cap b off xs) (hF : 0 < n → F b) : RowAt Form.int w F a n cap b off xs := by
 refine ⟨h.len, h.le, h.maxc, h.ptr, h.lt, hF, fun i x hx => ⟨_, rfl, fun j hj => ?_⟩⟩
 have hi : i < xs.length := by
  rcases Nat.lt_or_ge i xs.length with h1 | h1
  ·exact h1
  ·rw [List.getElem?_eq_none h1] at hx; cases hx
 have hc := h.cell i (by have := h.len; omega)
 obtain rfl : j = 0 := by simp [Form.int] at hj; exact hj
 unfold ix at hc
 rw [hx] at hc
 simpa [Form.int] using hc
def Flat {α : Type} (f : Form α) (w : World) (F : Nat → Prop) : List Value → List α → Prop
 | cs, [] => cs = []
 | cs, x :: xs => ∃ c d, cs = c ++ d ∧ f.reads w F c x ∧ Flat f w F d xs
theorem Flat.len {α : Type} {f : Form α} {w : World} {F : Nat → Prop} {xs : List α} : ∀ {cs : List Value}, Flat f w F cs xs → cs.length = xs.length * f.size := by
 induction xs with
 | nil => intro cs h; rw [show cs = [] from h]; simp
 | cons x xs ih =>
  rintro cs ⟨c, d, rfl, h, k⟩
  rw [List.length_append, ih k, f.len h, List.length_cons, Nat.succ_mul, Nat.add_comm]
theorem Flat.one {α : Type} {f : Form α} {w : World} {F : Nat → Prop} {xs : List α} : ∀ {cs : List Value}, Flat f w F cs xs → ∀ u ∈ cs, u.oneCell' = true := by
 induction xs with
 | nil => intro cs h u hu; rw [show cs = [] from h] at hu; cases hu
 | cons x xs ih =>
  rintro cs ⟨c, d, rfl, h, k⟩ u hu
  rcases List.mem_append.1 hu with h1 | h1
  ·exact f.one h u h1
  ·exact ih k u h1
theorem Flat.kept {α : Type} {f : Form α} {w w' : World} {F : Nat → Prop} (hF : ∀ b, F b → b < w.heap.size → w'.heap[b]? = w.heap[b]?) {xs : List α} : ∀ {cs : List Value}, Flat f w F cs xs → Flat f w' F cs xs := by
 induction xs with
 | nil => intro cs h; exact h
 | cons x xs ih => rintro cs ⟨c, d, rfl, h, k⟩; exact ⟨c, d, rfl, f.keep hF h, ih k⟩
theorem Flat.wide {α : Type} {f : Form α} {w : World} {F G : Nat → Prop} (hF : ∀ b, F b → b < w.heap.size → G b) {xs : List α} : ∀ {cs : List Value}, Flat f w F cs xs → Flat f w G cs xs := by
 induction xs with
 | nil => intro cs h; exact h
 | cons x xs ih => rintro cs ⟨c, d, rfl, h, k⟩; exact ⟨c, d, rfl, f.wide hF h, ih k⟩
theorem Flat.at {α : Type} {f : Form α} {w : World} {F : Nat → Prop} {xs : List α} : ∀ {cs : List Value}, Flat f w F cs xs → ∀ i x, xs[i]? = some x → ∃ c, f.reads w F c x ∧ ∀ j, j < f.size → cs[i * f.size + j]? = c[j]? := by
 induction xs with
 | nil => intro cs h i x hx; cases hx
 | cons y xs ih =>
  rintro cs ⟨c, d, rfl, h, k⟩ i x hx
  cases i with
  | zero =>
   simp at hx
   subst hx
   exact ⟨c, h, fun j hj => by rw [Nat.zero_mul, Nat.zero_add, List.getElem?_append_left (by rw [f.len h]; exact hj)]⟩
  | succ i =>
   simp at hx
   obtain ⟨c', h1, h2⟩ := ih k i x hx
   refine ⟨c', h1, fun j hj => ?_⟩
   rw [← h2 j hj, Nat.succ_mul, List.getElem?_append_right (by rw [f.len h]; omega), f.len h]
   congr 1
   omega
structure OwnRow {α : Type} (f : Form α) (E : TypeId) (w : World) (base : Nat) (F : Nat → Prop) (v : Value) (xs : List α) : Prop where
 holds : ∃ cs, w.ownsRow base E f.size v xs.length cs ∧ Flat f w (fun b => F b ∧ v.ownBlock ≠ some b) cs xs
theorem OwnRow.nil {α : Type} (f : Form α) (E : TypeId) (w : World) (base : Nat) (F : Nat → Prop) : OwnRow f E w base F (.slice none 0 0) ([] : List α) := ⟨[], World.ownsRow_nil _ _ _ _, rfl⟩
theorem OwnRow.slice {α : Type} {f : Form α} {E : TypeId} {w : World} {base : Nat} {F : Nat → Prop} {v : Value} {xs : List α} (h : OwnRow f E w base F v xs) : ∃ a cap, v = .slice a xs.length cap := by
 obtain ⟨cs, h, _⟩ := h.holds
 exact own_slice h
theorem OwnRow.base_le {α : Type} {f : Form α} {E : TypeId} {w : World} {base : Nat} {F : Nat → Prop} {v : Value} {xs : List α} (h : OwnRow f E w base F v xs) : ∀ k, v.ownBlock = some k → base ≤ k ∧ k < w.heap.size := by
 obtain ⟨cs, h, _⟩ := h.holds
 exact fun k hk => h.lt k hk
theorem OwnRow.kept {α : Type} {f : Form α} {E : TypeId} {w w' : World} {base : Nat} {F : Nat → Prop} {v : Value} {xs : List α} (h : OwnRow f E w base F v xs)
  (hv : ∀ b, v.ownBlock = some b → w'.heap[b]? = w.heap[b]?) (hF : ∀ b, F b → v.ownBlock ≠ some b → b < w.heap.size → w'.heap[b]? = w.heap[b]?) : OwnRow f E w' base F v xs := by
 obtain ⟨cs, ⟨h1, h2⟩, k⟩ := h.holds
 refine ⟨cs, ⟨h1, ?_⟩, Flat.kept (fun b hb hl => hF b hb.1 hb.2 hl) k⟩
 rcases h2 with h2 | ⟨g, cap, cur, e, hb, hg, r⟩
 ·exact Or.inl h2
 ·exact Or.inr ⟨g, cap, cur, e, hb, by rw [hv g (by rw [e]; rfl)]; exact hg, r⟩
theorem OwnRow.keep {α : Type} {f : Form α} {E : TypeId} {w w' : World} {base : Nat} {F : Nat → Prop} {v : Value} {xs : List α} (h : OwnRow f E w base F v xs) (hb : Below w.heap.size w w') : OwnRow f E w' base F v xs :=
 h.kept (fun b hv => hb.block b (h.base_le b hv).2) (fun b _ _ hl => hb.block b hl)
theorem OwnRow.wide {α : Type} {f : Form α} {E : TypeId} {w : World} {base : Nat} {F G : Nat → Prop} {v : Value} {xs : List α} (hF : ∀ b, F b → b < w.heap.size → G b) (h : OwnRow f E w base F v xs) : OwnRow f E w base G v xs := by
 obtain ⟨cs, h1, k⟩ := h.holds
 exact ⟨cs, h1, Flat.wide (fun b hb hl => ⟨hF b hb.1 hl, hb.2⟩) k⟩
theorem OwnRow.grown {α : Type} {f : Form α} {E : TypeId} {w w' : World} {base : Nat} {F : Nat → Prop} {v : Value} {xs : List α} {row : Option Nat} (h : OwnRow f E w base F v xs) (hg : w.grownBy w' row) (hv : ∀ b, v.ownBlock = some b → some b ≠ row) (hF : ∀ b, F b → v.ownBlock ≠ some b → some b ≠ row) : OwnRow f E w' base F v xs :=
 h.kept (fun b hb => hg.block b (h.base_le b hb).2 (hv b hb)) (fun b hb hb' hl => hg.block b hl (hF b hb hb'))
theorem OwnRow.row {α : Type} {f : Form α} {E : TypeId} {w : World} {base : Nat} {F G : Nat → Prop} {v : Value} {xs : List α} (h : OwnRow f E w base F v xs) (hF : ∀ b, F b → b < w.heap.size → G b) (hG : ∀ b, base ≤ b → G b) :
  ∃ a cap b, v = .slice a xs.length cap ∧ (0 < xs.length → base ≤ b) ∧ RowAt f w G a xs.length cap b 0 xs := by
 obtain ⟨cs, ⟨hl, h⟩, k⟩ := h.holds
 rcases h with ⟨rfl, h0⟩ | ⟨g, cap, cur, rfl, hb, hg, hn, hm, hs, ht⟩
 ·obtain rfl := List.eq_nil_of_length_eq_zero h0
  exact ⟨none, 0, 0, rfl, fun h => absurd h (Nat.lt_irrefl _), RowAt.nil f w G⟩
 ·refine ⟨_, cap, g, rfl, fun _ => hb, rfl, hn, hm, fun _ => rfl, fun _ => heap_lt hg, fun _ => hG _ hb, fun i x hx => ?_⟩
  obtain ⟨c, h1, h2⟩ := k.at i x hx
  have hi : i < xs.length := by
   rcases Nat.lt_or_ge i xs.length with h1 | h1
   ·exact h1
   ·rw [List.getElem?_eq_none h1] at hx; cases hx
  refine ⟨c, f.wide (fun b hb hl => hF b hb.1 hl) h1, fun j hj => ?_⟩
  have hij : i * f.size + j < xs.length * f.size := by
   have := Nat.mul_le_mul_right f.size (show i + 1 ≤ xs.length by omega)
   rw [Nat.succ_mul] at this
   omega
  rw [Nat.zero_add, cell_of_row w g _ cur E _ hg, ← h2 j hj, ← ht, List.getElem?_take_of_lt hij]
  simp
section
variable {P : Program} {w : World}
end
end Gal
end
section
set_option linter.unusedVariables false
set_option linter.unusedSimpArgs false
namespace Gal
open Go Go.RowKit
structure Far (S : Nat → Prop) (w w' : World) : Prop where
 os : w'.os = w.os
 tape : w'.tape = w.tape
 output : w'.output = w.output
 size : w.heap.size ≤ w'.heap.size
 block : ∀ k, k < w.heap.size → ¬ S k → w'.heap[k]? = w.heap[k]?
theorem Far.refl (S : Nat → Prop) (w : World) : Far S w w := ⟨rfl, rfl, rfl, Nat.le_refl _, fun _ _ _ => rfl⟩
theorem Far.wide {S T : Nat → Prop} {w w' : World} (h : Far S w w') (hS : ∀ k, k < w.heap.size → S k → T k) : Far T w w' := ⟨h.os, h.tape, h.output, h.size, fun k hk hT => h.block k hk (fun hs => hT (hS k hk hs))⟩
theorem Far.trans {S : Nat → Prop} {a b c : World} (h : Far S a b) (k : Far S b c) : Far S a c :=
 ⟨k.os.trans h.os, k.tape.trans h.tape, k.output.trans h.output, Nat.le_trans h.size k.size, fun i hi hs => (k.block i (Nat.lt_of_lt_of_le hi h.size) hs).trans (h.block i hi hs)⟩
theorem Far.below {S : Nat → Prop} {w w' w'' : World} (h : Far S w w') {B : Nat} (hb : Below B w' w'') (hB : ∀ k, k < w.heap.size → ¬ S k → k < B) : Far S w w'' :=
 ⟨hb.os.trans h.os, hb.tape.trans h.tape, hb.output.trans h.output, Nat.le_trans h.size hb.size, fun k hk hs => (hb.block k (hB k hk hs)).trans (h.block k hk hs)⟩
theorem Far.go {S : Nat → Prop} {w w' w'' : World} (h : Far S w w') (hb : Below w'.heap.size w' w'') : Far S w w'' := h.below hb fun k hk _ => Nat.lt_of_lt_of_le hk h.size
theorem Far.al {S : Nat → Prop} {w w' : World} (h : Far S w w') (o : Obj) : Far S w (w'.alloc o) := h.go ((Below.refl w'.heap.size w').alloc (Nat.le_refl _) o)
theorem Far.drN {S : Nat → Prop} {w w' : World} (h : Far S w w') (n : Nat) : Far S w (w'.drewN n) := h.go ⟨rfl, rfl, rfl, Nat.le_refl _, fun _ _ => rfl⟩
theorem Far.drew {S : Nat → Prop} {w w' : World} (h : Far S w w') : Far S w w'.drew := h.drN 1
theorem Far.st {S : Nat → Prop} {w w' : World} (h : Far S w w') {a : Addr} (ha : a.block < w.heap.size → S a.block) (u : Value) : Far S w (w'.setCell a u) :=
 ⟨h.os, h.tape, h.output, by simpa [World.setCell] using h.size, fun k hk hs => (Below.heap_setCell w' a u k (fun e => hs (by rw [e]; exact ha (by rw [← e]; exact hk)))).trans (h.block k hk hs)⟩
theorem Far.grown {S : Nat → Prop} {w w' w'' : World} {row : Option Nat} (h : Far S w w') (hg : w'.grownBy w'' row) (hr : ∀ k, row = some k → k < w.heap.size → S k) : Far S w w'' :=
 ⟨hg.os.trans h.os, hg.tape.trans h.tape, hg.output.trans h.output, Nat.le_trans h.size hg.size, fun k hk hs => (hg.block k (Nat.lt_of_lt_of_le hk h.size) (fun e => hs (hr k e.symm hk))).trans (h.block k hk hs)⟩
end Gal
end
section
set_option linter.unusedVariables false
namespace Gal
open Go Go.RowKit
variable {w : World} {b c d : Nat} {t u s : TypeId}
theorem IntsAt.drew {a : Option Addr} {n cap o : Nat} {xs : List Int} (h : IntsAt w a n cap b o xs) : IntsAt w.drew a n cap b o xs := h.drewN 1
end Gal
namespace Gal
open Go Go.RowKit
end Gal
end
section
set_option linter.unusedVariables false
namespace Gal
open Go Go.RowKit
theorem IntsAt.c0 {w : World} {a : Option Addr} {n cap b o : Nat} {xs : List Int} (h : IntsAt w a n cap b o xs) (hn : 0 < n) : w.cell? ⟨b, o, none⟩ = some (.int .i64 (ix xs 0)) := h.cell 0 hn
end Gal
end
end
