/- Texts joined: PBack. -/
import Derived.Test.YtgknjikjjklaiaaJ02
section
set_option linter.unusedVariables false
set_option linter.unusedSimpArgs false
namespace Gal
section
variable (ls : List Lay) (ss : List Mat) (g : Mat) (n : Nat)
def bM : Nat → Mat
 | 0 => g
 | k + 1 => (lx ls (n - 1 - k)).back (mx ss (n - 1 - k)) (bM k)
def bD (k : Nat) : Grd := (lx ls (n - 1 - k)).grad (mx ss (n - 1 - k)) (bM ls ss g n k)
def bF : Nat → Int
 | 0 => 0
 | k + 1 => if bF k = 0 then (lx ls (n - 1 - k)).backFault (mx ss (n - 1 - k)) (bM ls ss g n k) else bF k
def bDs : List Grd := (List.range n).map fun j => bD ls ss g n (n - 1 - j)
def netBackFault : Int := if 12 < ls.length then 3 else if ss.length ≠ ls.length + 1 then 2 else if ls.length = 0 then g.fault else bF ls ss g ls.length ls.length
end
section
variable {ls : List Lay} {ss : List Mat} {g : Mat} {n k m : Nat}
theorem bF_next (h : bF ls ss g n k = 0) : bF ls ss g n (k + 1) = (lx ls (n - 1 - k)).backFault (mx ss (n - 1 - k)) (bM ls ss g n k) := if_pos h
theorem bF_stays (h : k ≤ m) (hk : bF ls ss g n k ≠ 0) : bF ls ss g n m = bF ls ss g n k := by
  induction m with
  | zero => obtain rfl : k = 0 := by omega
            rfl
  | succ m ih =>
    rcases Nat.lt_or_ge k (m + 1) with h1 | h1
    · have e := ih (by omega)
      show (if bF ls ss g n m = 0 then _ else _) = _
      rw [if_neg (by rw [e]; exact hk), e]
    · obtain rfl : k = m + 1 := by omega
      rfl
theorem bF_stop (hk : k < n) (hz : bF ls ss g n k = 0) (hf : (lx ls (n - 1 - k)).backFault (mx ss (n - 1 - k)) (bM ls ss g n k) ≠ 0) : bF ls ss g n n = (lx ls (n - 1 - k)).backFault (mx ss (n - 1 - k)) (bM ls ss g n k) := by
 rw [bF_stays (k := k + 1) (by omega) (by rw [bF_next hz]; exact hf), bF_next hz]
theorem bDs_length : (bDs ls ss g n).length = n := by simp [bDs]
theorem bDs_gx {j : Nat} (h : j < n) : gx (bDs ls ss g n) j = bD ls ss g n (n - 1 - j) := by
 unfold gx bDs
 rw [List.getElem?_map, List.getElem?_eq_getElem (by simpa using h)]
 simp
end
section
variable (ls : List Lay) (ss : List Mat) (g : Mat)
def gone (l : List Nat) : Mat × (Nat → Option Grd) :=
 l.foldl (fun s i => ((lx ls i).back (mx ss i) s.1, fun j => if j = i then some ((lx ls i).grad (mx ss i) s.1) else s.2 j)) (g, fun _ => none)
theorem gone_snoc (l : List Nat) (i : Nat) : gone ls ss g (l ++ [i]) = ((lx ls i).back (mx ss i) (gone ls ss g l).1, fun j => if j = i then some ((lx ls i).grad (mx ss i) (gone ls ss g l).1) else (gone ls ss g l).2 j) := by
 unfold gone
 rw [List.foldl_append]
 rfl
inductive OkTo : List Nat → Prop
 | nil : OkTo []
 | snoc {l : List Nat} {x : Nat} (h : OkTo l) (hx : (lx ls x).backFault (mx ss x) (gone ls ss g l).1 = 0) : OkTo (l ++ [x])
end
section
variable {ls : List Lay} {ss : List Mat} {g : Mat}
theorem OkTo.inv {m : List Nat} (h : OkTo ls ss g m) : ∀ l x, m = l ++ [x] → OkTo ls ss g l ∧ (lx ls x).backFault (mx ss x) (gone ls ss g l).1 = 0 := by
 intro l x e
 cases h with
 | nil => simp at e
 | snoc h hx =>
  obtain ⟨e1, e2⟩ := List.append_inj' e rfl
  simp at e2
  subst e1 e2
  exact ⟨h, hx⟩
def descs (n k : Nat) : List Nat := (List.range k).map fun j => n - 1 - j
theorem descs_length (n k : Nat) : (descs n k).length = k := by simp [descs]
theorem descs_succ (n k : Nat) : descs n (k + 1) = descs n k ++ [n - 1 - k] := by simp [descs, List.range_succ]
theorem gone_descs (n : Nat) : ∀ t, t ≤ n → (gone ls ss g (descs n t)).1 = bM ls ss g n t ∧ ∀ j, n - t ≤ j → j < n → (gone ls ss g (descs n t)).2 j = some (bD ls ss g n (n - 1 - j))
 | 0, _ => ⟨rfl, fun j h1 h2 => by omega⟩
 | t + 1, ht => by
  obtain ⟨h1, h2⟩ := gone_descs n t (by omega)
  rw [descs_succ, gone_snoc, h1]
  refine ⟨rfl, fun j h3 h4 => ?_⟩
  dsimp only
  by_cases hj : j = n - 1 - t
  ·rw [if_pos hj]
   have e : n - 1 - j = t := by omega
   rw [e]
   rfl
  ·rw [if_neg hj]
   exact h2 j (by omega) h4
theorem bF_descs (n : Nat) : ∀ t, t ≤ n → OkTo ls ss g (descs n t) → bF ls ss g n t = 0
 | 0, _, _ => rfl
 | t + 1, ht, h => by
  rw [descs_succ] at h
  obtain ⟨h1, h2⟩ := h.inv _ _ rfl
  have h3 := bF_descs n t (by omega) h1
  rw [bF_next h3]
  rw [(gone_descs n t (by omega)).1] at h2
  exact h2
end
end Gal
end
