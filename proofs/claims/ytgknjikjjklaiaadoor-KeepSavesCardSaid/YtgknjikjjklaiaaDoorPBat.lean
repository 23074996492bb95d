/- Plain: batches, and their parts. No program in sight. -/
import Derived.Test.YtgknjikjjklaiaaDoorPBatch
import Derived.Test.YtgknjikjjklaiaaDoorBaseP
set_option linter.unusedVariables false
set_option linter.unusedSimpArgs false
namespace Gal
/-- a batch: rows, and what ought to come of them -/
structure Bat where
  I : Mat
  W : Mat
def Bat.fault (b : Bat) : Int := if b.I.fault ≠ 0 then b.I.fault else if b.W.fault ≠ 0 then b.W.fault else if b.I.rows ≠ b.W.rows ∨ b.I.rows < 1 then 2 else 0
def nx (s : List Nat) (k : Nat) : Nat := s[k]?.getD 0
/-- where the k-th part begins -/
def atOf (s : List Nat) : Nat → Nat
  | 0 => 0
  | k + 1 => atOf s k + nx s k
theorem atOf_cons (x : Nat) (s : List Nat) : ∀ k, atOf (x :: s) (k + 1) = x + atOf s k
  | 0 => by simp [atOf, nx]
  | k + 1 => by
    show atOf (x :: s) (k + 1) + nx (x :: s) (k + 1) = x + (atOf s k + nx s k)
    rw [atOf_cons x s k]
    have : nx (x :: s) (k + 1) = nx s k := by simp [nx]
    omega
theorem atOf_le : ∀ (s : List Nat) (k : Nat), atOf s k ≤ s.sum
  | [], k => by
    have : ∀ k, atOf [] k = 0 := fun k => by induction k with
      | zero => rfl
      | succ k ih => show atOf [] k + nx [] k = 0; rw [ih]; simp [nx]
    rw [this]; exact Nat.zero_le _
  | x :: s, 0 => Nat.zero_le _
  | x :: s, k + 1 => by
    rw [atOf_cons, List.sum_cons]
    have := atOf_le s k
    omega
def partOf (d : Bat) (s : List Nat) (k : Nat) : Bat := ⟨matRows d.I (atOf s k) (atOf s (k + 1)), matRows d.W (atOf s k) (atOf s (k + 1))⟩
def partsTo (d : Bat) (s : List Nat) (k : Nat) : List Bat := (List.range k).map (partOf d s)
theorem partsTo_succ (d : Bat) (s : List Nat) (k : Nat) : partsTo d s (k + 1) = partsTo d s k ++ [partOf d s k] := by simp [partsTo, List.range_succ]
theorem partsTo_length (d : Bat) (s : List Nat) (k : Nat) : (partsTo d s k).length = k := by simp [partsTo]
def splitFault (d : Bat) (p : Int) : Int := if d.fault ≠ 0 then d.fault else sizesFault d.I.rows p
theorem Bat.fault_ok {d : Bat} (h : d.fault = 0) : d.I.fault = 0 ∧ d.W.fault = 0 ∧ d.I.rows = d.W.rows ∧ 1 ≤ d.I.rows := by
  unfold Bat.fault at h
  by_cases h1 : d.I.fault = 0
  · rw [if_neg (by simp [h1])] at h
    by_cases h2 : d.W.fault = 0
    · rw [if_neg (by simp [h2])] at h
      by_cases h3 : d.I.rows ≠ d.W.rows ∨ d.I.rows < 1
      · rw [if_pos h3] at h; omega
      · exact ⟨h1, h2, by omega, by omega⟩
    · rw [if_pos h2] at h; exact absurd h h2
  · rw [if_pos h1] at h; exact absurd h h1
theorem sizesFault_ok {r p : Int} (h : sizesFault r p = 0) : 1 ≤ r ∧ r ≤ 24 ∧ 1 ≤ p ∧ p ≤ 12 ∧ p ≤ r := by
  unfold sizesFault at h
  by_cases h1 : r < 1 ∨ 24 < r ∨ p < 1 ∨ 12 < p
  · rw [if_pos h1] at h; omega
  · rw [if_neg h1] at h
    by_cases h2 : r < p
    · rw [if_pos h2] at h; omega
    · omega
theorem part_fault {m : Mat} {s : List Nat} {k : Nat} (h : m.fault = 0) (hs : (s.sum : Int) = m.rows) : rowsFault m (atOf s k) (atOf s (k + 1)) = 0 := by
  unfold rowsFault
  have h1 := atOf_le s (k + 1)
  have h2 : atOf s k ≤ atOf s (k + 1) := Nat.le_add_right _ _
  rw [if_pos h, if_neg (by omega)]
def bx (ds : List Bat) (i : Nat) : Bat := ds[i]?.getD ⟨Mat.none, Mat.none⟩
theorem bx_get {ds : List Bat} {i : Nat} (h : i < ds.length) : ds[i]? = some (bx ds i) := by unfold bx; rw [List.getElem?_eq_getElem h]; rfl
end Gal
