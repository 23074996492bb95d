/- Texts joined: PBackR. -/
import Derived.Test.YtgknjikjjklaiaaGreatDoorJ02
section
set_option linter.unusedVariables false
set_option linter.unusedSimpArgs false
namespace Gal
section
variable {ls : List Lay} {ss : List Mat} {g : Mat} {k : Nat}
theorem lx_take {j m : Nat} (h : j < m) : lx (ls.take m) j = lx ls j := by unfold lx; rw [List.getElem?_take, if_pos h]
theorem mx_take {j m : Nat} (h : j < m) : mx (ss.take m) j = mx ss j := by unfold mx; rw [List.getElem?_take, if_pos h]
theorem bM_take : ∀ t, t ≤ k → bM (ls.take k) (ss.take (k + 1)) (bM ls ss g (k + 1) 1) k t = bM ls ss g (k + 1) (t + 1)
 | 0, _ => rfl
 | t + 1, h => by
  show (lx (ls.take k) (k - 1 - t)).back (mx (ss.take (k + 1)) (k - 1 - t)) (bM (ls.take k) (ss.take (k + 1)) (bM ls ss g (k + 1) 1) k t) = (lx ls (k + 1 - 1 - (t + 1))).back (mx ss (k + 1 - 1 - (t + 1))) (bM ls ss g (k + 1) (t + 1))
  rw [bM_take t (by omega), lx_take (by omega), mx_take (by omega)]
  have e : k + 1 - 1 - (t + 1) = k - 1 - t := by omega
  rw [e]
theorem bF_take (hf : bF ls ss g (k + 1) 1 = 0) : ∀ t, t ≤ k → bF (ls.take k) (ss.take (k + 1)) (bM ls ss g (k + 1) 1) k t = bF ls ss g (k + 1) (t + 1)
 | 0, _ => hf.symm
 | t + 1, h => by
  show (if bF (ls.take k) (ss.take (k + 1)) (bM ls ss g (k + 1) 1) k t = 0 then (lx (ls.take k) (k - 1 - t)).backFault (mx (ss.take (k + 1)) (k - 1 - t)) (bM (ls.take k) (ss.take (k + 1)) (bM ls ss g (k + 1) 1) k t) else bF (ls.take k) (ss.take (k + 1)) (bM ls ss g (k + 1) 1) k t) =
   (if bF ls ss g (k + 1) (t + 1) = 0 then (lx ls (k + 1 - 1 - (t + 1))).backFault (mx ss (k + 1 - 1 - (t + 1))) (bM ls ss g (k + 1) (t + 1)) else bF ls ss g (k + 1) (t + 1))
  rw [bF_take hf t (by omega), bM_take t (by omega), lx_take (by omega), mx_take (by omega)]
  have e : k + 1 - 1 - (t + 1) = k - 1 - t := by omega
  rw [e]
theorem bD_take {t : Nat} (h : t < k) : bD (ls.take k) (ss.take (k + 1)) (bM ls ss g (k + 1) 1) k t = bD ls ss g (k + 1) (t + 1) := by
 unfold bD
 rw [bM_take t (by omega), lx_take (by omega), mx_take (by omega)]
 have e : k + 1 - 1 - (t + 1) = k - 1 - t := by omega
 rw [e]
theorem bDs_take : bDs ls ss g (k + 1) = bDs (ls.take k) (ss.take (k + 1)) (bM ls ss g (k + 1) 1) k ++ [bD ls ss g (k + 1) 0] := by
 unfold bDs
 rw [List.range_succ, List.map_append]
 congr 1
 ·refine List.map_congr_left fun j hj => ?_
  have hj' := List.mem_range.1 hj
  rw [bD_take (by omega)]
  congr 1
  omega
 ·simp
theorem bF_one : bF ls ss g (k + 1) 1 = (lx ls k).backFault (mx ss k) g := bF_next rfl
theorem bM_one : bM ls ss g (k + 1) 1 = (lx ls k).back (mx ss k) g := rfl
end
end Gal
end
