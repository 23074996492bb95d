/- Plain: what is to be turned, gathered. No program in sight. -/
import Derived.Test.YtgknjikjjklaiaaDoorPStep
set_option linter.unusedVariables false
set_option linter.unusedSimpArgs false
namespace Gal
def pairFault (a b : Grd) : Int := if lossFault a.W b.W = 0 then lossFault a.B b.B else lossFault a.W b.W
theorem pairFault_w {a b : Grd} (h : lossFault a.W b.W ≠ 0) : pairFault a b = lossFault a.W b.W := if_neg h
theorem pairFault_b {a b : Grd} (h : lossFault a.W b.W = 0) : pairFault a b = lossFault a.B b.B := if_pos h
def gatherFaultTo (as bs : List Grd) : Nat → Int
  | 0 => 0
  | k + 1 => if gatherFaultTo as bs k = 0 then pairFault (gx as k) (gx bs k) else gatherFaultTo as bs k
def gatherFault (as bs : List Grd) : Int := if as.length = bs.length then gatherFaultTo as bs as.length else 2
theorem gather_next {as bs : List Grd} {k : Nat} (h : gatherFaultTo as bs k = 0) : gatherFaultTo as bs (k + 1) = pairFault (gx as k) (gx bs k) := if_pos h
theorem gather_stays {as bs : List Grd} {k m : Nat} (h : k ≤ m) (hk : gatherFaultTo as bs k ≠ 0) : gatherFaultTo as bs m = gatherFaultTo as bs k := by
  induction m with
  | zero => obtain rfl : k = 0 := by omega
            rfl
  | succ m ih =>
    rcases Nat.lt_or_ge k (m + 1) with h1 | h1
    · have e := ih (by omega)
      show (if gatherFaultTo as bs m = 0 then _ else _) = _
      rw [if_neg (by rw [e]; exact hk), e]
    · obtain rfl : k = m + 1 := by omega
      rfl
theorem gather_stop {as bs : List Grd} {t n : Nat} (ht : t < n) (hz : gatherFaultTo as bs t = 0) (hp : pairFault (gx as t) (gx bs t) ≠ 0) : gatherFaultTo as bs n = pairFault (gx as t) (gx bs t) := by
  rw [gather_stays (k := t + 1) (by omega) (by rw [gather_next hz]; exact hp), gather_next hz]
def pairSum (a b : Grd) : Grd := ⟨matAdd a.W b.W, matAdd a.B b.B⟩
def gatherTo (as bs : List Grd) (k : Nat) : List Grd := (List.range k).map fun i => pairSum (gx as i) (gx bs i)
theorem gatherTo_length (as bs : List Grd) (k : Nat) : (gatherTo as bs k).length = k := by simp [gatherTo]
theorem gatherTo_succ (as bs : List Grd) (k : Nat) : gatherTo as bs (k + 1) = gatherTo as bs k ++ [pairSum (gx as k) (gx bs k)] := by simp [gatherTo, List.range_succ]
end Gal
