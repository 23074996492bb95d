/- Texts joined: PLaws, PNet, PStep, PBack. -/
import Derived.Test.YtgknjikjjklaiaaGreatDoorJ01
section
set_option linter.unusedVariables false
set_option linter.unusedSimpArgs false
set_option linter.unusedSectionVars false
namespace Gal
theorem upto_split (f : Nat → Int) (a : Nat) : ∀ b, upto f (a + b) = upto f a ++ upto (fun k => f (a + k)) b
 | 0 => by simp [upto]
 | b + 1 => by rw [← Nat.add_assoc, upto_succ, upto_succ, upto_split f a b, List.append_assoc]
theorem upto_parts (f : Nat → Int) {a n : Nat} (h : a ≤ n) : upto f n = upto f a ++ upto (fun k => f (a + k)) (n - a) := by
 rw [← upto_split]
 congr 1
 omega
theorem inEnds_upto {f : Nat → Int} {n : Nat} (h : ∀ k, k < n → clamp (f k) = f k) : inEnds (upto f n) := by
 intro j hj
 rw [upto_length] at hj
 rw [upto_ix hj]
 exact h j hj
theorem ix_left {xs ys : List Int} {k : Nat} (h : k < xs.length) : ix (xs ++ ys) k = ix xs k := by unfold ix; rw [List.getElem?_append_left h]
theorem ix_right {xs ys : List Int} {k : Nat} : ix (xs ++ ys) (xs.length + k) = ix ys k := by unfold ix; rw [List.getElem?_append_right (by omega)]; congr 2; omega
theorem more_append {xs ys row : List Int} {C a : Nat} (h : xs.length = a * C) : moreCells (xs ++ ys) row C = moreCells xs row C ++ moreCells ys row C := by
 unfold moreCells
 rw [List.length_append, upto_split]
 congr 1
 ·exact upto_congr fun k hk => by rw [ix_left hk]
 ·exact upto_congr fun k hk => by
   rw [ix_right, h]
   congr 2
   rw [Nat.add_comm, Nat.mul_comm, Nat.add_mul_mod_self_left]
theorem mat_form {m : Mat} (h : m.fault = 0) : ∃ (R K : Nat) (xs : List Int), m = ⟨R, K, xs⟩ ∧ R ≤ 24 ∧ K ≤ 12 ∧ xs.length = R * K ∧ inEnds xs := by
 obtain ⟨R, K, eR, eK, hR, hK, hl, he⟩ := matFault_ok h
 obtain ⟨r, c, xs⟩ := m
 dsimp only at eR eK hl he
 subst eR eK
 exact ⟨R, K, xs, rfl, hR, hK, hl, he⟩
theorem go_rows' (l : Lay) (x : Mat) : (l.go x).rows = x.rows := by
 unfold Lay.go
 by_cases h1 : l.kind = 1
 ·rw [if_pos h1]
 ·rw [if_neg h1]
  by_cases h2 : l.kind = 2
  ·rw [if_pos h2]
  ·rw [if_neg h2]
   by_cases h3 : l.kind = 3
   ·rw [if_pos h3]
   ·rw [if_neg h3]
theorem go_cols (l : Lay) (x : Mat) : (l.go x).cols = l.wide x.cols := by
 unfold Lay.go Lay.wide
 by_cases h1 : l.kind = 1
 ·rw [if_pos h1, if_pos h1]
 ·rw [if_neg h1, if_neg h1]
  by_cases h2 : l.kind = 2
  ·rw [if_pos h2]
  ·rw [if_neg h2]
   by_cases h3 : l.kind = 3
   ·rw [if_pos h3]
   ·rw [if_neg h3]
theorem matMul_cells (R K C : Nat) (xs ys : List Int) : (matMul ⟨R, K, xs⟩ ⟨K, C, ys⟩).cells.length = R * C := by
 unfold matMul
 simp only [Int.toNat_natCast]
 exact grid_length _ _ _
theorem clamp_max {x : Int} (h : clamp x = x) : clamp (max x 0) = max x 0 := by
 have h1 := clamp_lo x
 have h2 := clamp_hi x
 rw [h] at h1 h2
 exact clamp_id (by omega) (by omega)
theorem go_fault {l : Lay} {x : Mat} (hf : l.goFault x = 0) : (l.go x).fault = 0 := by
 obtain ⟨hl, hx, ht⟩ := Lay.goFault_ok hf
 obtain ⟨h1, h2, fw, fb, fit⟩ := Lay.fault_ok hl
 obtain ⟨R, K, xs, rfl, hR, hK, hlen, hin⟩ := mat_form hx
 unfold Lay.go
 by_cases k1 : l.kind = 1
 ·rw [if_pos k1]
  obtain ⟨R', C, ws, hW, hR', hC, hlw, _⟩ := mat_form fw
  have e := ht.1 k1
  rw [hW] at e ⊢
  dsimp only at e
  obtain rfl : K = R' := by omega
  exact matFault_zero hR hC (by rw [moreCells_length, matMul_cells]) (inEnds_upto fun k _ => clamp_clamp _)
 ·rw [if_neg k1]
  by_cases k2 : l.kind = 2
  ·rw [if_pos k2]
   exact matFault_zero hR hK (by rw [upto_length]; exact hlen) (inEnds_upto fun k hk => clamp_max (hin k hk))
  ·rw [if_neg k2]
   by_cases k3 : l.kind = 3
   ·rw [if_pos k3]
    exact matFault_zero hR hK (by rw [upto_length]; exact hlen) (inEnds_upto fun k hk => clamp_clamp _)
   ·rw [if_neg k3]
    exact matFault_zero hR hK (by rw [moreCells_length]; exact hlen) (inEnds_upto fun k hk => clamp_clamp _)
section
variable {l : Lay} {R K k : Nat} {xs : List Int} (hk : k ≤ R)
include hk
theorem go_parts (hf : l.goFault ⟨R, K, xs⟩ = 0) :
  l.goFault (topOf R K xs k) = 0 ∧ l.goFault (botOf R K xs k) = 0 ∧ stackFault [l.go (topOf R K xs k), l.go (botOf R K xs k)] = 0 ∧ matStack [l.go (topOf R K xs k), l.go (botOf R K xs k)] = l.go ⟨R, K, xs⟩ := by
 obtain ⟨hl, hx, ht⟩ := Lay.goFault_ok hf
 obtain ⟨h1, h2, fw, fb, fit⟩ := Lay.fault_ok hl
 obtain ⟨R', K', eR, eK, hR, hK, hlen, hin⟩ := matFault_ok hx
 dsimp only at eR eK hlen hin
 obtain rfl : R = R' := by omega
 obtain rfl : K = K' := by omega
 have f1 : l.goFault (topOf R K xs k) = 0 := by unfold Lay.goFault; rw [if_neg (by simp [hl]), if_neg (by simp [top_fault hk hlen hR hK hin]), if_pos (show l.takes (topOf R K xs k).cols from ht)]
 have f2 : l.goFault (botOf R K xs k) = 0 := by unfold Lay.goFault; rw [if_neg (by simp [hl]), if_neg (by simp [bot_fault hk hlen hR hK hin]), if_pos (show l.takes (botOf R K xs k).cols from ht)]
 have hkK := kK (K := K) hk hlen
 refine ⟨f1, f2, stack_two hk hlen (go_fault f1) (go_fault f2) (by rw [go_cols, go_cols]; rfl) (by rw [go_rows', go_rows']; show (k : Int) + ((R - k : Nat) : Int) ≤ 24; omega), ?_⟩
 rw [stack_is hk hlen, go_rows', go_rows', go_cols]
 have hcell : (l.go (topOf R K xs k)).cells ++ (l.go (botOf R K xs k)).cells = (l.go ⟨R, K, xs⟩).cells := by
  have e1 : (xs.take (k * K)).length = k * K := by rw [List.length_take]; omega
  have e2 : (xs.drop (k * K)).length = R * K - k * K := by rw [List.length_drop]; omega
  have e3 : xs.take (k * K) ++ xs.drop (k * K) = xs := List.take_append_drop _ _
  unfold Lay.go
  by_cases k1 : l.kind = 1
  ·simp only [if_pos k1]
   obtain ⟨Q, C, ws, hW, hQ, hC, hlw, _⟩ := mat_form fw
   have e := ht.1 k1
   rw [hW] at e ⊢
   dsimp only at e
   obtain rfl : K = Q := by omega
   have hp := congrArg Mat.cells (mul_parts (C := C) (ys := ws) hk hlen)
   rw [stack_is hk hlen] at hp
   dsimp only at hp ⊢
   rw [← hp, more_append (a := k)]
   exact matMul_cells k K C _ _
  ·simp only [if_neg k1]
   by_cases k2 : l.kind = 2
   ·simp only [if_pos k2]
    show upto _ (xs.take (k * K)).length ++ upto _ (xs.drop (k * K)).length = upto _ xs.length
    rw [e1, e2, hlen, upto_parts _ hkK]
    congr 1
    ·exact upto_congr fun j hj => by show max (ix (xs.take (k * K)) j) 0 = _; rw [ix_take hj]
    ·exact upto_congr fun j hj => by show max (ix (xs.drop (k * K)) j) 0 = _; rw [ix_drop]
   ·simp only [if_neg k2]
    by_cases k3 : l.kind = 3
    ·simp only [if_pos k3]
     show upto _ (xs.take (k * K)).length ++ upto _ (xs.drop (k * K)).length = upto _ xs.length
     rw [e1, e2, hlen, upto_parts _ hkK]
     congr 1
     ·exact upto_congr fun j hj => by show mul (ix (xs.take (k * K)) j) _ = _; rw [ix_take hj]
     ·exact upto_congr fun j hj => by show mul (ix (xs.drop (k * K)) j) _ = _; rw [ix_drop]
    ·simp only [if_neg k3]
     show moreCells (xs.take (k * K)) _ (K : Int).toNat ++ moreCells (xs.drop (k * K)) _ (K : Int).toNat = moreCells xs _ (K : Int).toNat
     rw [Int.toNat_natCast, ← more_append (a := k) e1, e3]
 rw [hcell]
 have e4 : (topOf R K xs k).rows + (botOf R K xs k).rows = (l.go ⟨R, K, xs⟩).rows := by rw [go_rows']; show (k : Int) + ((R - k : Nat) : Int) = R; omega
 have e5 : l.wide (topOf R K xs k).cols = (l.go ⟨R, K, xs⟩).cols := by rw [go_cols]; rfl
 rw [e4, e5]
end
section
variable {R K : Nat} {xs : List Int} (hK1 : 1 ≤ K) (hf : (⟨R, K, xs⟩ : Mat).fault = 0)
include hK1 hf
end
end Gal
end
section
set_option linter.unusedVariables false
set_option linter.unusedSimpArgs false
namespace Gal
def Lay.none : Lay := ⟨0, Mat.none, Mat.none⟩
def lx (n : List Lay) (i : Nat) : Lay := n[i]?.getD Lay.none
theorem lx_get {n : List Lay} {i : Nat} (h : i < n.length) : n[i]? = some (lx n i) := by unfold lx; rw [List.getElem?_eq_getElem h]; rfl
def netTo (n : List Lay) (x : Mat) : Nat → Mat
 | 0 => x
 | k + 1 => (lx n k).go (netTo n x k)
def goTo (n : List Lay) (x : Mat) : Nat → Int
 | 0 => 0
 | k + 1 => if goTo n x k = 0 then (lx n k).goFault (netTo n x k) else goTo n x k
def netGoFault (n : List Lay) (x : Mat) : Int := if 12 < n.length then 3 else if x.fault ≠ 0 then x.fault else goTo n x n.length
def netOuts (n : List Lay) (x : Mat) (k : Nat) : List Mat := (List.range (k + 1)).map (netTo n x)
theorem netOuts_succ (n : List Lay) (x : Mat) (k : Nat) : netOuts n x (k + 1) = netOuts n x k ++ [netTo n x (k + 1)] := by
 unfold netOuts
 rw [List.range_succ (n := k + 1), List.map_append]
 rfl
theorem netOuts_length (n : List Lay) (x : Mat) (k : Nat) : (netOuts n x k).length = k + 1 := by simp [netOuts]
theorem netOuts_last (n : List Lay) (x : Mat) (k : Nat) : (netOuts n x k)[k]? = some (netTo n x k) := by simp [netOuts]
theorem goTo_stop {n : List Lay} {x : Mat} {k m : Nat} (h : k ≤ m) (hk : goTo n x k ≠ 0) : goTo n x m = goTo n x k := by
  induction m with
  | zero => obtain rfl : k = 0 := by omega
            rfl
  | succ m ih =>
    by_cases hm : k ≤ m
    · have := ih hm
      show (if goTo n x m = 0 then _ else goTo n x m) = _
      rw [if_neg (by rw [this]; exact hk), this]
    · obtain rfl : k = m + 1 := by omega
      rfl
theorem goTo_succ {n : List Lay} {x : Mat} {k : Nat} (h : goTo n x k = 0) : goTo n x (k + 1) = (lx n k).goFault (netTo n x k) := if_pos h
theorem netTo_fault {n : List Lay} {x : Mat} {k : Nat} (hx : x.fault = 0) (h : goTo n x k = 0) : (netTo n x k).fault = 0 := by
 cases k with
 | zero => exact hx
 | succ k =>
  by_cases h0 : goTo n x k = 0
  ·rw [goTo_succ h0] at h
   exact go_fault h
  ·have : goTo n x (k + 1) = goTo n x k := if_neg h0
   rw [this] at h
   exact absurd h h0
end Gal
end
section
set_option linter.unusedVariables false
set_option linter.unusedSimpArgs false
namespace Gal
def gx (ds : List Grd) (i : Nat) : Grd := ds[i]?.getD Grd.none
theorem gx_get {ds : List Grd} {i : Nat} (h : i < ds.length) : ds[i]? = some (gx ds i) := by unfold gx; rw [List.getElem?_eq_getElem h]; rfl
def likeShape (a b : Mat) : Prop := a.rows = b.rows ∧ a.cols = b.cols
instance (a b : Mat) : Decidable (likeShape a b) := by unfold likeShape; exact inferInstance
def fitsFault (l : Lay) (v d : Grd) : Int :=
 if l.fault ≠ 0 then l.fault else if v.W.fault ≠ 0 then v.W.fault else if v.B.fault ≠ 0 then v.B.fault else if d.W.fault ≠ 0 then d.W.fault else if d.B.fault ≠ 0 then d.B.fault else
  if likeShape v.W l.W ∧ likeShape v.B l.B ∧ likeShape d.W l.W ∧ likeShape d.B l.B then 0 else 2
def stepFaultTo (ls : List Lay) (vs ds : List Grd) : Nat → Int
 | 0 => 0
 | k + 1 => if stepFaultTo ls vs ds k = 0 then fitsFault (lx ls k) (gx vs k) (gx ds k) else stepFaultTo ls vs ds k
def stepFault (ls : List Lay) (vs ds : List Grd) (ln kp : Int) : Int :=
 if ln < 0 ∨ 256 < ln ∨ kp < 0 ∨ 256 < kp then 1 else if 12 < ls.length then 3 else if vs.length ≠ ls.length ∨ ds.length ≠ ls.length then 2 else stepFaultTo ls vs ds ls.length
end Gal
end
section
set_option linter.unusedVariables false
set_option linter.unusedSimpArgs false
namespace Gal
section
variable (ls : List Lay) (ss : List Mat) (g : Mat) (n : Nat)
def bM : Nat → Mat
 | 0 => g
 | k + 1 => (lx ls (n - 1 - k)).back (mx ss (n - 1 - k)) (bM k)
def bD (k : Nat) : Grd := (lx ls (n - 1 - k)).grad (mx ss (n - 1 - k)) (bM ls ss g n k)
def bF : Nat → Int
 | 0 => 0
 | k + 1 => if bF k = 0 then (lx ls (n - 1 - k)).backFault (mx ss (n - 1 - k)) (bM ls ss g n k) else bF k
def bDs : List Grd := (List.range n).map fun j => bD ls ss g n (n - 1 - j)
def netBackFault : Int := if 12 < ls.length then 3 else if ss.length ≠ ls.length + 1 then 2 else if ls.length = 0 then g.fault else bF ls ss g ls.length ls.length
end
section
variable {ls : List Lay} {ss : List Mat} {g : Mat} {n k m : Nat}
theorem bF_next (h : bF ls ss g n k = 0) : bF ls ss g n (k + 1) = (lx ls (n - 1 - k)).backFault (mx ss (n - 1 - k)) (bM ls ss g n k) := if_pos h
theorem bF_stays (h : k ≤ m) (hk : bF ls ss g n k ≠ 0) : bF ls ss g n m = bF ls ss g n k := by
  induction m with
  | zero => obtain rfl : k = 0 := by omega
            rfl
  | succ m ih =>
    rcases Nat.lt_or_ge k (m + 1) with h1 | h1
    · have e := ih (by omega)
      show (if bF ls ss g n m = 0 then _ else _) = _
      rw [if_neg (by rw [e]; exact hk), e]
    · obtain rfl : k = m + 1 := by omega
      rfl
theorem bF_stop (hk : k < n) (hz : bF ls ss g n k = 0) (hf : (lx ls (n - 1 - k)).backFault (mx ss (n - 1 - k)) (bM ls ss g n k) ≠ 0) : bF ls ss g n n = (lx ls (n - 1 - k)).backFault (mx ss (n - 1 - k)) (bM ls ss g n k) := by
 rw [bF_stays (k := k + 1) (by omega) (by rw [bF_next hz]; exact hf), bF_next hz]
theorem bDs_length : (bDs ls ss g n).length = n := by simp [bDs]
theorem bDs_gx {j : Nat} (h : j < n) : gx (bDs ls ss g n) j = bD ls ss g n (n - 1 - j) := by
 unfold gx bDs
 rw [List.getElem?_map, List.getElem?_eq_getElem (by simpa using h)]
 simp
end
section
variable (ls : List Lay) (ss : List Mat) (g : Mat)
def gone (l : List Nat) : Mat × (Nat → Option Grd) :=
 l.foldl (fun s i => ((lx ls i).back (mx ss i) s.1, fun j => if j = i then some ((lx ls i).grad (mx ss i) s.1) else s.2 j)) (g, fun _ => none)
theorem gone_snoc (l : List Nat) (i : Nat) : gone ls ss g (l ++ [i]) = ((lx ls i).back (mx ss i) (gone ls ss g l).1, fun j => if j = i then some ((lx ls i).grad (mx ss i) (gone ls ss g l).1) else (gone ls ss g l).2 j) := by
 unfold gone
 rw [List.foldl_append]
 rfl
inductive OkTo : List Nat → Prop
 | nil : OkTo []
 | snoc {l : List Nat} {x : Nat} (h : OkTo l) (hx : (lx ls x).backFault (mx ss x) (gone ls ss g l).1 = 0) : OkTo (l ++ [x])
end
section
variable {ls : List Lay} {ss : List Mat} {g : Mat}
theorem OkTo.inv {m : List Nat} (h : OkTo ls ss g m) : ∀ l x, m = l ++ [x] → OkTo ls ss g l ∧ (lx ls x).backFault (mx ss x) (gone ls ss g l).1 = 0 := by
 intro l x e
 cases h with
 | nil => simp at e
 | snoc h hx =>
  obtain ⟨e1, e2⟩ := List.append_inj' e rfl
  simp at e2
  subst e1 e2
  exact ⟨h, hx⟩
def descs (n k : Nat) : List Nat := (List.range k).map fun j => n - 1 - j
theorem descs_succ (n k : Nat) : descs n (k + 1) = descs n k ++ [n - 1 - k] := by simp [descs, List.range_succ]
theorem gone_descs (n : Nat) : ∀ t, t ≤ n → (gone ls ss g (descs n t)).1 = bM ls ss g n t ∧ ∀ j, n - t ≤ j → j < n → (gone ls ss g (descs n t)).2 j = some (bD ls ss g n (n - 1 - j))
 | 0, _ => ⟨rfl, fun j h1 h2 => by omega⟩
 | t + 1, ht => by
  obtain ⟨h1, h2⟩ := gone_descs n t (by omega)
  rw [descs_succ, gone_snoc, h1]
  refine ⟨rfl, fun j h3 h4 => ?_⟩
  dsimp only
  by_cases hj : j = n - 1 - t
  ·rw [if_pos hj]
   have e : n - 1 - j = t := by omega
   rw [e]
   rfl
  ·rw [if_neg hj]
   exact h2 j (by omega) h4
theorem bF_descs (n : Nat) : ∀ t, t ≤ n → OkTo ls ss g (descs n t) → bF ls ss g n t = 0
 | 0, _, _ => rfl
 | t + 1, ht, h => by
  rw [descs_succ] at h
  obtain ⟨h1, h2⟩ := h.inv _ _ rfl
  have h3 := bF_descs n t (by omega) h1
  rw [bF_next h3]
  rw [(gone_descs n t (by omega)).1] at h2
  exact h2
end
end Gal
end
