/- Plain: a state as bytes, and bytes as a state. No program in sight. -/
import Derived.Test.YtgknjikjjklaiaaDoorPWire4
import Derived.Test.YtgknjikjjklaiaaDoorJPlain
set_option linter.unusedVariables false
set_option linter.unusedSimpArgs false
namespace Gal
/-! ### a state as bytes -/
def matNums (m : Mat) : List Nat := [m.rows.toNat, m.cols.toNat] ++ m.cells.map zigOf
def partNums (l : Lay) (v : Grd) : List Nat := [l.kind.toNat] ++ (matNums l.W ++ (matNums l.B ++ (matNums v.W ++ matNums v.B)))
def netNums (N : List Lay) (V : List Grd) : Nat → List Nat
  | 0 => []
  | k + 1 => netNums N V k ++ partNums (lx N k) (gx V k)
def staNums (s : Sta) : List Nat := [s.steps.toNat, s.N.length] ++ netNums s.N s.V s.N.length
def staBytes (s : Sta) : List Nat := withSums ([71, 1] ++ (staNums s).flatMap seven)
/-! ### bytes as a state -/
/-- a matrix that stands at some place, and where it ends -/
def matRd (bs : List Nat) (at0 : Nat) : Option (Mat × Nat) :=
  match sevAt bs at0 with
  | none => none
  | some (r, at1) => match sevAt bs at1 with
    | none => none
    | some (c, at2) => if 24 < r ∨ 12 < c then none else match readN bs (r * c) at2 with
      | none => none
      | some (cells, at3) => some (⟨r, c, cells.map zagOf⟩, at3)
/-- a layer and its speed -/
def partRd (bs : List Nat) (at0 : Nat) : Option (Lay × Grd × Nat) :=
  match sevAt bs at0 with
  | none => none
  | some (k, a1) => match matRd bs a1 with
    | none => none
    | some (W, a2) => match matRd bs a2 with
      | none => none
      | some (B, a3) => match matRd bs a3 with
        | none => none
        | some (vW, a4) => match matRd bs a4 with
          | none => none
          | some (vB, a5) => some (⟨k, W, B⟩, ⟨vW, vB⟩, a5)
def laysRd (bs : List Nat) (at0 : Nat) : Nat → Option (List Lay × List Grd × Nat)
  | 0 => some ([], [], at0)
  | k + 1 => match laysRd bs at0 k with
    | none => none
    | some (N, V, a) => match partRd bs a with
      | none => none
      | some (l, v, e) => some (N ++ [l], V ++ [v], e)
/-- what stands ahead of the sums, behind the first two bytes -/
def bodyRd (c : List Nat) : Option Sta :=
  match sevAt c 2 with
  | none => none
  | some (steps, a1) => match sevAt c a1 with
    | none => none
    | some (n, a2) => if 12 < n then none else match laysRd c a2 n with
      | none => none
      | some (N, V, e) => if e ≠ c.length ∨ (Sta.mk N V steps).fault ≠ 0 then none else some ⟨N, V, steps⟩
/-- is it one: long enough, not too long, the first two bytes, the sums -/
def headOk (bs : List Nat) : Prop := 6 ≤ bs.length ∧ bs.length ≤ 100000 ∧ bs[0]?.getD 0 = 71 ∧ bs[1]?.getD 0 = 1 ∧ (prgSums (bs.take (bs.length - 2))).1 = bs[bs.length - 2]?.getD 0 ∧ (prgSums (bs.take (bs.length - 2))).2 = bs[bs.length - 1]?.getD 0
instance (bs : List Nat) : Decidable (headOk bs) := by unfold headOk; exact inferInstance
def staRd (bs : List Nat) : Option Sta := if headOk bs then bodyRd (bs.take (bs.length - 2)) else none
theorem laysRd_none {bs : List Nat} {at0 k : Nat} (h : laysRd bs at0 k = none) : ∀ m, laysRd bs at0 (k + m) = none
  | 0 => h
  | m + 1 => by rw [← Nat.add_assoc, laysRd, laysRd_none h m]
theorem laysRd_none' {bs : List Nat} {at0 k n : Nat} (h : laysRd bs at0 k = none) (hk : k ≤ n) : laysRd bs at0 n = none := by
  have := laysRd_none h (n - k)
  rwa [show k + (n - k) = n by omega] at this
theorem laysRd_len {bs : List Nat} {at0 : Nat} : ∀ {k : Nat} {N : List Lay} {V : List Grd} {e : Nat}, laysRd bs at0 k = some (N, V, e) → N.length = k ∧ V.length = k
  | 0, N, V, e, h => by
    simp only [laysRd, Option.some.injEq, Prod.mk.injEq] at h
    obtain ⟨rfl, rfl, rfl⟩ := h
    exact ⟨rfl, rfl⟩
  | k + 1, N, V, e, h => by
    rw [laysRd] at h
    cases hl : laysRd bs at0 k with
    | none => rw [hl] at h; cases h
    | some r =>
      obtain ⟨N1, V1, a⟩ := r
      rw [hl] at h
      dsimp only at h
      obtain ⟨h1, h2⟩ := laysRd_len hl
      cases hp : partRd bs a with
      | none => rw [hp] at h; cases h
      | some q =>
        obtain ⟨l, v, e1⟩ := q
        rw [hp] at h
        simp only [Option.some.injEq, Prod.mk.injEq] at h
        obtain ⟨rfl, rfl, rfl⟩ := h
        simp [h1, h2]
end Gal
