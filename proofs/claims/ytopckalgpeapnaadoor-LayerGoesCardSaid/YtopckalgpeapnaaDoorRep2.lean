/- How values in memory read: matrices. Over any program. -/
import Derived.Test.YtopckalgpeapnaaDoorRep
import Derived.Test.YtopckalgpeapnaaDoorPMat2
set_option linter.unusedVariables false
set_option linter.unusedSimpArgs false
namespace Gal
open Go Go.RowKit

theorem MatAt.mk {w : World} {a : Option Addr} {n cap b off : Nat} {xs : List Int} {r c : Int} (h : IntsAt w a n cap b off xs) : MatAt w (.agg #[.int .i64 r, .int .i64 c, .slice a n cap]) ⟨r, c, xs⟩ := ⟨a, n, cap, b, off, rfl, h⟩
theorem MatAt.below {w w' : World} {v : Value} {m : Mat} (h : MatAt w v m) (hb : Below w.heap.size w w') : MatAt w' v m := by
  obtain ⟨a, n, cap, b, off, rfl, hi⟩ := h
  exact ⟨a, n, cap, b, off, rfl, hi.below hb hi.lt⟩
theorem MatAt.alloc {w : World} {v : Value} {m : Mat} (h : MatAt w v m) (o : Obj) : MatAt (w.alloc o) v m := h.below ((Below.refl w.heap.size w).alloc (Nat.le_refl _) o)
theorem MatAt.drewN {w : World} {v : Value} {m : Mat} (h : MatAt w v m) (k : Nat) : MatAt (w.drewN k) v m := h.below ⟨rfl, rfl, rfl, Nat.le_refl _, fun _ _ => rfl⟩
theorem MatAt.nought (w : World) : MatAt w (.agg #[.int .i64 0, .int .i64 0, .slice none 0 0]) Mat.none :=
  ⟨none, 0, 0, 0, 0, rfl, rfl, Nat.le_refl _, Nat.zero_le _, fun h => absurd h (Nat.lt_irrefl _), fun h => absurd h (Nat.lt_irrefl _), fun i hi => absurd hi (Nat.not_lt_zero _)⟩

/-- two matrices in a block of their own -/
theorem mats2 {w : World} {B : Nat} {T : TypeId} {r0 c0 r1 c1 : Int} {a0 a1 : Option Addr} {n0 k0 n1 k1 b0 o0 b1 o1 : Nat} {xs ys : List Int}
    (hB : Box w B [.int .i64 r0, .int .i64 c0, .slice a0 n0 k0, .int .i64 r1, .int .i64 c1, .slice a1 n1 k1] T) (h0 : IntsAt w a0 n0 k0 b0 o0 xs) (h1 : IntsAt w a1 n1 k1 b1 o1 ys) :
    MatsAt w (some ⟨B, 0, none⟩) 2 2 B 0 [⟨r0, c0, xs⟩, ⟨r1, c1, ys⟩] := by
  refine ⟨rfl, Nat.le_refl _, by unfold maxLen; omega, fun _ => rfl, fun _ => hB.lt, fun i hi => ?_⟩
  rcases (by omega : i = 0 ∨ i = 1) with rfl | rfl
  · exact ⟨a0, n0, k0, b0, o0, (hB.cell _).trans rfl, (hB.cell _).trans rfl, (hB.cell _).trans rfl, h0.lt, h0⟩
  · exact ⟨a1, n1, k1, b1, o1, (hB.cell _).trans rfl, (hB.cell _).trans rfl, (hB.cell _).trans rfl, h1.lt, h1⟩

theorem IntsAt.keep {w w' : World} {a : Option Addr} {n cap b off : Nat} {xs : List Int} (h : IntsAt w a n cap b off xs) (hb : Below w.heap.size w w') : IntsAt w' a n cap b off xs := h.below hb h.lt
theorem IntsAt.set3 {w : World} {a : Option Addr} {n cap b off B : Nat} {xs : List Int} (h : IntsAt w a n cap b off xs) (hne : 0 < n → b ≠ B) (u v x : Value) :
    IntsAt (((w.setCell ⟨B, 0, none⟩ u).setCell ⟨B, 1, none⟩ v).setCell ⟨B, 2, none⟩ x) a n cap b off xs := ((h.set hne u).set hne v).set hne x
theorem MatAt.set3 {w : World} {a : Option Addr} {n cap b off B : Nat} {xs : List Int} {r c : Int} (h : IntsAt w a n cap b off xs) (hne : 0 < n → b ≠ B) (u v x : Value) :
    MatAt (((w.setCell ⟨B, 0, none⟩ u).setCell ⟨B, 1, none⟩ v).setCell ⟨B, 2, none⟩ x) (.agg #[.int .i64 r, .int .i64 c, .slice a n cap]) ⟨r, c, xs⟩ := MatAt.mk (h.set3 hne u v x)
/-- a slice expression, with both bounds -/
theorem run_slice_lohi {P : Program} (w : World) (t e : TypeId) (ht : P.underlying t = some (.slice e)) (hs : ∀ W, (Go.sizeOf e).run P W = .ok 1 W) {a : Option Addr} {n cap b off : Nat} {xs : List Int} (h : IntsAt w a n cap b off xs)
    (lo hi : Nat) (L H : Int) (hL : L = lo) (hH : H = hi) (h1 : lo ≤ hi) (h2 : hi ≤ n) :
    ∃ a', (∀ W, (Instr.slice t (.slice a n cap) (some (.int .i64 L)) (some (.int .i64 H)) none).run P W = .ok (.slice a' (hi - lo) (cap - lo)) W) ∧ IntsAt w a' (hi - lo) (cap - lo) b (off + lo) (piece xs lo hi) := by
  subst hL hH
  have hle := h.le
  refine ⟨if cap = lo then a else a.map (·.add lo), fun W => ?_, ?_⟩
  · have s1 : ∀ W, (Instr.sliceBound (.int .i64 (hi : Int)) cap .sliceAcap).run P W = .ok hi W := fun W => by
      have := run_sliceBound (P := P) W .i64 hi cap .sliceAcap (by omega) (by omega)
      simpa using this
    have s2 : ∀ W, (Instr.sliceBound (.int .i64 (lo : Int)) hi .sliceB).run P W = .ok lo W := fun W => by
      have := run_sliceBound (P := P) W .i64 lo hi .sliceB (by omega) (by omega)
      simpa using this
    simp [Instr.slice, Instr.sliceBounds, run_underlying ht, s1, s2, hs]
  · refine ⟨by rw [piece_length (by rw [h.len]; exact h2)], by omega, by have := h.maxc; omega, fun hn => ?_, fun hn => h.lt (by omega), fun i hi' => ?_⟩
    · rw [if_neg (by omega), h.ptr (by omega)]
      simp only [Option.map_some, Option.some.injEq]
      unfold Addr.add
      by_cases h0 : lo = 0
      · subst h0; simp
      · rw [if_neg h0]
    · rw [piece_ix hi', ← h.cell _ (by omega), Nat.add_assoc]
/-- the cells of a slice of integers, as append's law asks for them -/
theorem IntsAt.news {w : World} {A : Addr} {n cap b off : Nat} {xs : List Int} (h : IntsAt w (some A) n cap b off xs) : ∀ j u, (xs.map (Value.int .i64))[j]? = some u → w.cell? (A.add j) = some u := by
  intro j u hu
  have hl := h.len
  have hj : j < xs.length := by
    rcases Nat.lt_or_ge j xs.length with h1 | h1
    · exact h1
    · rw [List.getElem?_eq_none (by simpa using h1)] at hu; cases hu
  have hp := h.ptr (by omega)
  cases hp
  have hadd : (⟨b, off, none⟩ : Addr).add j = ⟨b, off + j, none⟩ := by unfold Addr.add; split <;> simp_all
  rw [hadd, h.cell j (by omega), ← hu]
  unfold ix
  rw [List.getElem?_map, List.getElem?_eq_getElem hj]
  rfl
theorem ints_one (xs : List Int) : ∀ u ∈ xs.map (Value.int .i64), u.oneCell' = true := by
  intro u hu
  obtain ⟨x, _, rfl⟩ := List.mem_map.1 hu
  rfl
end Gal
namespace Go.RowKit
open Gal
theorem Below.al {w w' : World} (h : Below w.heap.size w w') (o : Obj) : Below w.heap.size w (w'.alloc o) := h.alloc h.size o
theorem Below.go {w w' w'' : World} (h : Below w.heap.size w w') (k : Below w'.heap.size w' w'') : Below w.heap.size w w'' := h.trans (k.mono h.size)
theorem Below.st {w w' : World} (h : Below w.heap.size w w') {p : Addr} (hp : w.heap.size ≤ p.block) (u : Value) : Below w.heap.size w (w'.setCell p u) := h.setCell hp u
theorem Below.drN {w w' : World} (h : Below w.heap.size w w') (n : Nat) : Below w.heap.size w (w'.drewN n) := below_drewN h n
end Go.RowKit
