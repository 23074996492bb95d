/- How values in memory read: slices of integers. Over any program. -/
import Derived.WalkKit
import Derived.Lib.Hide
import Derived.Deep.QuietTactic
import Derived.Deep.Draws
import Derived.Outline
import Derived.Test.YtopckalgpeapnaaDoorPMat
set_option linter.unusedVariables false
set_option linter.unusedSimpArgs false
namespace Gal
open Go Go.RowKit

/-- slice (a, n, _) reads, at w, as the integers xs -/
structure IntsAt (w : World) (a : Option Addr) (n cap b off : Nat) (xs : List Int) : Prop where
  len : xs.length = n
  le : n ≤ cap
  maxc : cap ≤ maxLen
  ptr : 0 < n → a = some ⟨b, off, none⟩
  lt : 0 < n → b < w.heap.size
  cell : ∀ i, i < n → w.cell? ⟨b, off + i, none⟩ = some (.int .i64 (ix xs i))

theorem IntsAt.max {w : World} {a : Option Addr} {n cap b off : Nat} {xs : List Int} (h : IntsAt w a n cap b off xs) : n ≤ maxLen := Nat.le_trans h.le h.maxc
theorem IntsAt.below {w w' : World} {a : Option Addr} {n cap b off : Nat} {xs : List Int} (h : IntsAt w a n cap b off xs) {B : Nat} (hb : Below B w w') (hB : 0 < n → b < B) : IntsAt w' a n cap b off xs :=
  ⟨h.len, h.le, h.maxc, h.ptr, fun hn => Nat.lt_of_lt_of_le (h.lt hn) hb.size, fun i hi => (hb.cell (p := ⟨b, off + i, none⟩) (hB (by omega))).trans (h.cell i hi)⟩

theorem IntsAt.alloc {w : World} {a : Option Addr} {n cap b off : Nat} {xs : List Int} (h : IntsAt w a n cap b off xs) (o : Obj) : IntsAt (w.alloc o) a n cap b off xs :=
  h.below ((Below.refl w.heap.size w).alloc (Nat.le_refl _) o) h.lt
theorem IntsAt.drewN {w : World} {a : Option Addr} {n cap b off : Nat} {xs : List Int} (h : IntsAt w a n cap b off xs) (k : Nat) : IntsAt (w.drewN k) a n cap b off xs := h.below (B := w.heap.size) ⟨rfl, rfl, rfl, Nat.le_refl _, fun _ _ => rfl⟩ h.lt
theorem IntsAt.set {w : World} {a : Option Addr} {n cap b off : Nat} {xs : List Int} (h : IntsAt w a n cap b off xs) {p : Addr} (hne : 0 < n → b ≠ p.block) (u : Value) : IntsAt (w.setCell p u) a n cap b off xs :=
  ⟨h.len, h.le, h.maxc, h.ptr, fun hn => by simpa [World.setCell] using h.lt hn, fun i hi => (World.cell?_of_block (a := ⟨b, off + i, none⟩) (Below.heap_setCell w p u b (hne (by omega)))).trans (h.cell i hi)⟩
/-- what the call owns reads as its integers -/
theorem IntsAt.of_own {w : World} {base E n : Nat} {v : Value} {xs : List Int} (h : w.ownsRow base E 1 v n (xs.map (Value.int .i64))) :
    ∃ a cap b, v = .slice a n cap ∧ (0 < n → base ≤ b) ∧ IntsAt w a n cap b 0 xs := by
  obtain ⟨hl, h⟩ := h
  have hl' : xs.length = n := by simpa using hl
  rcases h with ⟨rfl, rfl⟩ | ⟨g, cap, cur, rfl, hb, hg, hn, hm, hs, ht⟩
  · exact ⟨none, 0, 0, rfl, fun h => absurd h (Nat.lt_irrefl _), hl', Nat.le_refl _, Nat.zero_le _, fun h => absurd h (Nat.lt_irrefl _), fun h => absurd h (Nat.lt_irrefl _), fun i hi => absurd hi (Nat.not_lt_zero _)⟩
  · refine ⟨_, cap, g, rfl, fun _ => hb, hl', hn, hm, fun _ => rfl, fun _ => ?_, fun i hi => ?_⟩
    · rcases Nat.lt_or_ge g w.heap.size with h | h
      · exact h
      · rw [Array.getElem?_eq_none h] at hg; cases hg
    · rw [Nat.zero_add, cell_of_row w g i cur E _ hg]
      have h1 : (cur.toList.take (n * 1))[i]? = (xs.map (Value.int .i64))[i]? := by rw [ht]
      rw [List.getElem?_take_of_lt (by omega), List.getElem?_map] at h1
      have h2 : xs[i]? = some (ix xs i) := by unfold ix; rw [List.getElem?_eq_getElem (by omega)]; rfl
      rw [h2] at h1
      simpa using h1

/-- block b holds just these cells, and may be written -/
def Box (w : World) (b : Nat) (cs : List Value) (t : TypeId) : Prop := w.heap[b]? = some (.cells cs.toArray t (0, 0))
theorem Box.lt {w : World} {b : Nat} {cs : List Value} {t : TypeId} (h : Box w b cs t) : b < w.heap.size := by
  rcases Nat.lt_or_ge b w.heap.size with h1 | h1
  · exact h1
  · unfold Box at h; rw [Array.getElem?_eq_none h1] at h; cases h
theorem Box.cell {w : World} {b : Nat} {cs : List Value} {t : TypeId} (h : Box w b cs t) (i : Nat) : w.cell? ⟨b, i, none⟩ = cs[i]? := by
  unfold Box at h; simp [World.cell?, h]
theorem Box.thawed {w : World} {b : Nat} {cs : List Value} {t : TypeId} (h : Box w b cs t) (i : Nat) : w.frozen? ⟨b, i, none⟩ = false := by
  unfold Box at h; simp [World.frozen?, h]
theorem Box.block {w w' : World} {b : Nat} {cs : List Value} {t : TypeId} (h : Box w b cs t) (e : w'.heap[b]? = w.heap[b]?) : Box w' b cs t := by
  unfold Box; rw [e]; exact h
theorem Box.drew {w : World} {b : Nat} {cs : List Value} {t : TypeId} (h : Box w b cs t) : Box w.drew b cs t := h
theorem Box.drewN {w : World} {b : Nat} {cs : List Value} {t : TypeId} (h : Box w b cs t) (n : Nat) : Box (w.drewN n) b cs t := h
theorem Box.alloc {w : World} {b : Nat} {cs : List Value} {t : TypeId} (h : Box w b cs t) (o : Obj) : Box (w.alloc o) b cs t := h.block (Below.heap_alloc w o b h.lt)
theorem Box.new (w : World) (cs : List Value) (t : TypeId) : Box (w.alloc (.cells cs.toArray t)) w.heap.size cs t := by
  unfold Box; exact heap_alloc_new w _
theorem Box.new' (w : World) (n : Nat) (cs : List Value) (t : TypeId) (hn : n = w.heap.size) : Box (w.alloc (.cells cs.toArray t)) n cs t := by subst hn; exact Box.new w cs t
theorem Box.below {w w' : World} {b B : Nat} {cs : List Value} {t : TypeId} (h : Box w b cs t) (hb : Below B w w') (hB : b < B) : Box w' b cs t := h.block (hb.block b hB)
theorem Box.keep {w w' : World} {b : Nat} {cs : List Value} {t : TypeId} (h : Box w b cs t) (hb : Below w.heap.size w w') : Box w' b cs t := h.below hb h.lt
theorem Box.grown {w w' : World} {b : Nat} {row : Option Nat} {cs : List Value} {t : TypeId} (h : Box w b cs t) (hg : w.grownBy w' row) (hne : some b ≠ row) : Box w' b cs t := h.block (hg.block b h.lt hne)
theorem Box.set {w : World} {b : Nat} {cs : List Value} {t : TypeId} (h : Box w b cs t) (i : Nat) (v : Value) : Box (w.setCell ⟨b, i, none⟩ v) b (cs.set i v) t := by
  unfold Box at *
  simp [World.setCell, Array.getElem?_modify, h]
theorem Box.far {w : World} {b : Nat} {cs : List Value} {t : TypeId} (h : Box w b cs t) {a : Addr} (hne : b ≠ a.block) (v : Value) : Box (w.setCell a v) b cs t := h.block (Below.heap_setCell w a v b hne)
/-- a block of another element type is another block -/
theorem own_ne {w : World} {base e size n b : Nat} {v : Value} {xs cs : List Value} {t : TypeId} (h : w.ownsRow base e size v n xs) (hb : Box w b cs t) (hne : e ≠ t) : v.ownBlock ≠ some b := by
  rcases h.2 with ⟨rfl, _⟩ | ⟨g, cap, cur, rfl, _, hg, _⟩
  · simp [Value.ownBlock]
  · intro e1
    simp [Value.ownBlock] at e1
    unfold Box at hb
    rw [e1, hb] at hg
    simp at hg
    exact hne hg.2.symm
theorem own_slice {w : World} {base e size n : Nat} {v : Value} {xs : List Value} (h : w.ownsRow base e size v n xs) : ∃ a cap, v = .slice a n cap := by
  rcases h.2 with ⟨rfl, rfl⟩ | ⟨g, cap, cur, rfl, _⟩
  · exact ⟨none, 0, rfl⟩
  · exact ⟨_, cap, rfl⟩
theorem own_set {w : World} {base e size n : Nat} {v : Value} {xs : List Value} (h : w.ownsRow base e size v n xs) {a : Addr} (hne : v.ownBlock ≠ some a.block) (u : Value) : (w.setCell a u).ownsRow base e size v n xs := by
  obtain ⟨h1, h2⟩ := h
  refine ⟨h1, ?_⟩
  rcases h2 with h2 | ⟨g, cap, cur, hv, hg, hh, r⟩
  · exact Or.inl h2
  · refine Or.inr ⟨g, cap, cur, hv, hg, ?_, r⟩
    rw [Below.heap_setCell _ _ _ _ (by intro e1; apply hne; rw [hv, ← e1]; rfl)]; exact hh

theorem own_made (w : World) (b base e size : Nat) (cur : Array Value) (cap : Nat) (hn : b = w.heap.size) (hb : base ≤ w.heap.size) (hm : cap ≤ maxLen) (hs : cur.size = cap * size) :
    (w.alloc (.cells cur e)).ownsRow base e size (.slice (some ⟨b, 0, none⟩) 0 cap) 0 [] := by subst hn; exact World.ownsRow_made w cur cap hb hm hs

section
variable {H : Type} {P : Program}
theorem run_make_rowN (t e : TypeId) (i : TypeInfo) (z : Value) (ht : P.underlying t = some (.slice e)) (hi : P.info? e = some i) (hz : i.zero = some z)
    (kl kc : IntKind) (n c : Nat) (L C : Int) (hL : L = (n : Int)) (hC : C = (c : Int)) (hnc : n ≤ c) (hbytes : i.bytes * c ≤ 281474976710656) (h63 : c ≤ 9223372036854775807) (w : World) :
    (Instr.makeSlice t (.int kl L) (.int kc C)).run P w = .ok (.slice (some ⟨w.heap.size, 0, none⟩) n c) (w.alloc (.cells (madeCells z.cells (c * i.size)) e)) := by
  subst hL hC
  have hb : (i.bytes : Int) * (c : Int) ≤ 281474976710656 := by
    have h : ((i.bytes * c : Nat) : Int) ≤ 281474976710656 := by omega
    rwa [Int.natCast_mul] at h
  have hr := run_make (P := P) w t e i z ht hi hz kl kc n c (by omega) (by omega) hb (by omega)
  simp only [Int.toNat_natCast] at hr
  exact hr
end

/-- names the operation at a step of a region that draws: the guard of an arm -/
theorem at_oper {P : Program} {ops : Array Oper} {a : Act} {w : World} {K : Act → World → Prop} {Q : Exit → Act → World → Prop} {E : Prop} (o : Oper)
    (h : if Region.wanted o (yielded ops a.tmps) = true then Oper.wp P o a w K Q else E) : if Region.wanted o (yielded ops a.tmps) = true then Oper.wp P o a w K Q else E := h

theorem below_drewN {B : Nat} {a w : World} (h : Below B a w) (n : Nat) : Below B a (w.drewN n) := ⟨h.os, h.tape, h.output, h.size, h.block⟩
/-- behind 'm.f = append(m.f, x)': what the call owned below stays as it was -/
theorem below_append {B n : Nat} {w wr w1 : World} {o : Obj} {base e size k : Nat} {v : Value} {xs : List Value} (hb : Below B w wr) (hB : B ≤ wr.heap.size) (hown : wr.ownsRow base e size v k xs) (hbase : B ≤ base)
    (hgrow : ((wr.drewN n).alloc o).grownBy w1 v.ownBlock) : Below B w w1 :=
  Below.grown (Below.alloc (below_drewN hb n) hB o) hgrow (by simp; omega) fun k hk => Nat.le_trans hbase (hown.lt k hk).1

/-- a value reads, at w, as a matrix -/
def MatAt (w : World) (v : Value) (m : Mat) : Prop := ∃ a n cap b off, v = .agg #[.int .i64 m.rows, .int .i64 m.cols, .slice a n cap] ∧ IntsAt w a n cap b off m.cells
/-- slice (a, n, _) reads, at w, as the matrices ms -/
structure MatsAt (w : World) (a : Option Addr) (n cap b off : Nat) (ms : List Mat) : Prop where
  len : ms.length = n
  le : n ≤ cap
  maxc : cap ≤ maxLen
  ptr : 0 < n → a = some ⟨b, off, none⟩
  lt : 0 < n → b < w.heap.size
  cell : ∀ i, i < n → ∃ a' n' cap' b' off', w.cell? ⟨b, off + i * 3, none⟩ = some (.int .i64 (mx ms i).rows) ∧ w.cell? ⟨b, off + i * 3 + 1, none⟩ = some (.int .i64 (mx ms i).cols) ∧
    w.cell? ⟨b, off + i * 3 + 2, none⟩ = some (.slice a' n' cap') ∧ (0 < n' → b' < w.heap.size) ∧ IntsAt w a' n' cap' b' off' (mx ms i).cells

theorem MatsAt.max {w : World} {a : Option Addr} {n cap b off : Nat} {ms : List Mat} (h : MatsAt w a n cap b off ms) : n ≤ maxLen := Nat.le_trans h.le h.maxc

section
variable {P : Program} {f : FuncId} {args : Array Value} {w : World} {a n : Nat} {v : Value}
/-- a contract that leaves the world alone, in a region that draws its order -/
theorem quiet0 (h : ∀ W, Calls P f args W fun e w' => e = .returned v ∧ W = w') : Calls P f args (w.drewN n) fun e w'' => e = .returned v ∧ ∃ m, w'' = w.drewN m :=
  (h _).mono fun _ _ ⟨he, hm⟩ => ⟨he, n, hm.symm⟩
theorem quiet1 (h : ∀ W, Calls P f args W fun e w' => e = .returned v ∧ W = w') : Calls P f args (w.drewN (a + n)) fun e w'' => e = .returned v ∧ ∃ m, w'' = w.drewN (a + m) :=
  (h _).mono fun _ _ ⟨he, hm⟩ => ⟨he, n, hm.symm⟩
/-- a contract that only draws, likewise -/
theorem quiet2 (h : ∀ m, Calls P f args (w.drewN m) fun e w' => e = .returned v ∧ ∃ k, w' = (w.drewN m).drewN k) : Calls P f args (w.drewN n) fun e w'' => e = .returned v ∧ ∃ m, w'' = w.drewN m :=
  (h n).mono fun _ _ ⟨he, k, hm⟩ => ⟨he, n + k, by rw [hm, World.drewN_drewN]⟩
theorem quiet3 (h : ∀ m, Calls P f args (w.drewN m) fun e w' => e = .returned v ∧ ∃ k, w' = (w.drewN m).drewN k) : Calls P f args (w.drewN (a + n)) fun e w'' => e = .returned v ∧ ∃ m, w'' = w.drewN (a + m) :=
  (h _).mono fun _ _ ⟨he, k, hm⟩ => ⟨he, n + k, by rw [hm, World.drewN_drewN, Nat.add_assoc]⟩
end

theorem lt_add {b n : Nat} (h : b < n) : ∀ k, b < n + k := fun k => by omega
theorem ret_val {a b : Value} (h : a = b) : Ending.returned a = .returned b := by rw [h]
end Gal
