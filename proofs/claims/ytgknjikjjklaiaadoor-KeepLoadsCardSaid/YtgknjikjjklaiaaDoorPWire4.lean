/- Plain: a message is read number by number; what comes of it. No program in sight. -/
import Derived.Test.YtgknjikjjklaiaaDoorPWire3
set_option linter.unusedVariables false
set_option linter.unusedSimpArgs false
namespace Gal
/-- so many numbers were read, or it went wrong -/
def RdN (bs : List Nat) (cnt at0 at1 : Nat) (ok : Bool) (vals : List Nat) : Prop := (readN bs cnt at0 = some (vals, at1) ∧ ok = true) ∨ (readN bs cnt at0 = none ∧ ok = false)
theorem RdN.start (bs : List Nat) (at0 : Nat) : RdN bs 0 at0 at0 true [] := Or.inl ⟨rfl, rfl⟩
theorem RdN.step {bs : List Nat} {cnt at0 at1 at2 v : Nat} {ok ok2 : Bool} {vals : List Nat} (h : RdN bs cnt at0 at1 ok vals) (h2 : (sevAt bs at1 = some (v, at2) ∧ ok2 = ok) ∨ (sevAt bs at1 = none ∧ ok2 = false)) : RdN bs (cnt + 1) at0 at2 ok2 (vals ++ [v]) := by
  rcases h with ⟨h, rfl⟩ | ⟨h, rfl⟩
  · rcases h2 with ⟨h2, rfl⟩ | ⟨h2, rfl⟩
    · left
      refine ⟨?_, rfl⟩
      rw [readN_add, h]
      dsimp only
      rw [readN, h2]
      rfl
    · right
      refine ⟨?_, rfl⟩
      rw [readN_add, h]
      dsimp only
      rw [readN, h2]
  · right
    refine ⟨by rw [readN_add, h], ?_⟩
    rcases h2 with ⟨_, h2⟩ | ⟨_, h2⟩ <;> exact h2
section
variable {bs : List Nat} {v1 v2 v3 v4 at4 at5 : Nat} {cells : List Nat}
theorem msgRead_none4 (h : readN bs 4 0 = none) : msgRead bs = none := by unfold msgRead; rw [h]
theorem msgRead_big (h : readN bs 4 0 = some ([v1, v2, v3, v4], at4)) (hb : 24 < v3 ∨ 12 < v4) : msgRead bs = none := by
  unfold msgRead
  rw [h]
  exact if_pos hb
theorem msgRead_cells (h : readN bs 4 0 = some ([v1, v2, v3, v4], at4)) (hb : ¬ (24 < v3 ∨ 12 < v4)) (hc : readN bs (v3 * v4) at4 = none) : msgRead bs = none := by
  unfold msgRead
  rw [h]
  refine (if_neg hb).trans ?_
  simp only [List.getElem?_cons_zero, List.getElem?_cons_succ, Option.getD_some]
  rw [hc]
theorem msgRead_at (h : readN bs 4 0 = some ([v1, v2, v3, v4], at4)) (hb : ¬ (24 < v3 ∨ 12 < v4)) (hc : readN bs (v3 * v4) at4 = some (cells, at5)) :
    msgRead bs = if msgFault (msgOf v1 v2 v3 v4 cells) ≠ 0 ∨ bs.length < at5 + 2 then none
      else if [(prgSums (bs.take at5)).1, (prgSums (bs.take at5)).2] = [bs[at5]?.getD 0, bs[at5 + 1]?.getD 0] then some (msgOf v1 v2 v3 v4 cells, at5 + 2) else none := by
  unfold msgRead
  rw [h]
  refine (if_neg hb).trans ?_
  simp only [List.getElem?_cons_zero, List.getElem?_cons_succ, Option.getD_some]
  rw [hc]
end
end Gal
