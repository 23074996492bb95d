/- Texts joined: PLaws, PNet, PStep. -/
import Derived.Test.YtchngeagnlngaaaJ02
section
set_option linter.unusedVariables false
set_option linter.unusedSimpArgs false
set_option linter.unusedSectionVars false
namespace Gal
theorem upto_split (f : Nat → Int) (a : Nat) : ∀ b, upto f (a + b) = upto f a ++ upto (fun k => f (a + k)) b
 | 0 => by simp [upto]
 | b + 1 => by rw [← Nat.add_assoc, upto_succ, upto_succ, upto_split f a b, List.append_assoc]
theorem upto_parts (f : Nat → Int) {a n : Nat} (h : a ≤ n) : upto f n = upto f a ++ upto (fun k => f (a + k)) (n - a) := by
 rw [← upto_split]
 congr 1
 omega
theorem inEnds_upto {f : Nat → Int} {n : Nat} (h : ∀ k, k < n → clamp (f k) = f k) : inEnds (upto f n) := by
 intro j hj
 rw [upto_length] at hj
 rw [upto_ix hj]
 exact h j hj
theorem ix_left {xs ys : List Int} {k : Nat} (h : k < xs.length) : ix (xs ++ ys) k = ix xs k := by unfold ix; rw [List.getElem?_append_left h]
theorem ix_right {xs ys : List Int} {k : Nat} : ix (xs ++ ys) (xs.length + k) = ix ys k := by unfold ix; rw [List.getElem?_append_right (by omega)]; congr 2; omega
theorem more_append {xs ys row : List Int} {C a : Nat} (h : xs.length = a * C) : moreCells (xs ++ ys) row C = moreCells xs row C ++ moreCells ys row C := by
 unfold moreCells
 rw [List.length_append, upto_split]
 congr 1
 ·exact upto_congr fun k hk => by rw [ix_left hk]
 ·exact upto_congr fun k hk => by
   rw [ix_right, h]
   congr 2
   rw [Nat.add_comm, Nat.mul_comm, Nat.add_mul_mod_self_left]
theorem mat_form {m : Mat} (h : m.fault = 0) : ∃ (R K : Nat) (xs : List Int), m = ⟨R, K, xs⟩ ∧ R ≤ 24 ∧ K ≤ 12 ∧ xs.length = R * K ∧ inEnds xs := by
 obtain ⟨R, K, eR, eK, hR, hK, hl, he⟩ := matFault_ok h
 obtain ⟨r, c, xs⟩ := m
 dsimp only at eR eK hl he
 subst eR eK
 exact ⟨R, K, xs, rfl, hR, hK, hl, he⟩
theorem go_rows' (l : Lay) (x : Mat) : (l.go x).rows = x.rows := by
 unfold Lay.go
 by_cases h1 : l.kind = 1
 ·rw [if_pos h1]
 ·rw [if_neg h1]
  by_cases h2 : l.kind = 2
  ·rw [if_pos h2]
  ·rw [if_neg h2]
   by_cases h3 : l.kind = 3
   ·rw [if_pos h3]
   ·rw [if_neg h3]
theorem go_cols (l : Lay) (x : Mat) : (l.go x).cols = l.wide x.cols := by
 unfold Lay.go Lay.wide
 by_cases h1 : l.kind = 1
 ·rw [if_pos h1, if_pos h1]
 ·rw [if_neg h1, if_neg h1]
  by_cases h2 : l.kind = 2
  ·rw [if_pos h2]
  ·rw [if_neg h2]
   by_cases h3 : l.kind = 3
   ·rw [if_pos h3]
   ·rw [if_neg h3]
theorem matMul_cells (R K C : Nat) (xs ys : List Int) : (matMul ⟨R, K, xs⟩ ⟨K, C, ys⟩).cells.length = R * C := by
 unfold matMul
 simp only [Int.toNat_natCast]
 exact grid_length _ _ _
theorem clamp_max {x : Int} (h : clamp x = x) : clamp (max x 0) = max x 0 := by
 have h1 := clamp_lo x
 have h2 := clamp_hi x
 rw [h] at h1 h2
 exact clamp_id (by omega) (by omega)
theorem clamp_zero : clamp 0 = 0 := clamp_id (by omega) (by omega)
theorem go_fault {l : Lay} {x : Mat} (hf : l.goFault x = 0) : (l.go x).fault = 0 := by
 obtain ⟨hl, hx, ht⟩ := Lay.goFault_ok hf
 obtain ⟨h1, h2, fw, fb, fit⟩ := Lay.fault_ok hl
 obtain ⟨R, K, xs, rfl, hR, hK, hlen, hin⟩ := mat_form hx
 unfold Lay.go
 by_cases k1 : l.kind = 1
 ·rw [if_pos k1]
  obtain ⟨R', C, ws, hW, hR', hC, hlw, _⟩ := mat_form fw
  have e := ht.1 k1
  rw [hW] at e ⊢
  dsimp only at e
  obtain rfl : K = R' := by omega
  exact matFault_zero hR hC (by rw [moreCells_length, matMul_cells]) (inEnds_upto fun k _ => clamp_clamp _)
 ·rw [if_neg k1]
  by_cases k2 : l.kind = 2
  ·rw [if_pos k2]
   exact matFault_zero hR hK (by rw [upto_length]; exact hlen) (inEnds_upto fun k hk => clamp_max (hin k hk))
  ·rw [if_neg k2]
   by_cases k3 : l.kind = 3
   ·rw [if_pos k3]
    exact matFault_zero hR hK (by rw [upto_length]; exact hlen) (inEnds_upto fun k hk => clamp_clamp _)
   ·rw [if_neg k3]
    exact matFault_zero hR hK (by rw [moreCells_length]; exact hlen) (inEnds_upto fun k hk => clamp_clamp _)
theorem back_fault {l : Lay} {x g : Mat} (hf : l.backFault x g = 0) : (l.back x g).fault = 0 ∧ (l.back x g).rows = x.rows ∧ (l.back x g).cols = x.cols := by
 obtain ⟨f1, f2, f3, f4, f5⟩ := Lay.backFault_ok hf
 obtain ⟨hl, hx, ht⟩ := Lay.goFault_ok f1
 obtain ⟨h1, h2, fw, fb, fit⟩ := Lay.fault_ok hl
 obtain ⟨R, K, xs, rfl, hR, hK, hlen, hin⟩ := mat_form hx
 obtain ⟨R', K', ys, rfl, hR', hK', hlen', hin'⟩ := mat_form f2
 dsimp only at f3 f4 f5 ht
 obtain rfl : R' = R := by omega
 unfold Lay.back
 by_cases k1 : l.kind = 1
 ·rw [if_pos k1]
  obtain ⟨Q, C, ws, hW, hQ, hC, hlw, _⟩ := mat_form fw
  have e := ht.1 k1
  have e2 : (K' : Int) = l.W.cols := by rw [f4]; unfold Lay.wide; rw [if_pos k1]
  rw [hW] at e e2 ⊢
  dsimp only at e e2
  obtain rfl : K = Q := by omega
  obtain rfl : K' = C := by omega
  refine ⟨?_, rfl, rfl⟩
  unfold matTurn
  exact matMul_fault hR hK
 ·rw [if_neg k1]
  have e2 : (K' : Int) = K := by rw [f4]; unfold Lay.wide; rw [if_neg k1]
  obtain rfl : K' = K := by omega
  by_cases k2 : l.kind = 2
  ·rw [if_pos k2]
   refine ⟨matFault_zero hR hK (by rw [upto_length]; exact hlen) (inEnds_upto fun k hk => ?_), rfl, rfl⟩
   by_cases hp : 0 < ix xs k
   ·dsimp only; rw [if_pos hp]; exact hin' k (by rw [hlen', ← hlen]; exact hk)
   ·dsimp only; rw [if_neg hp]; exact clamp_zero
  ·rw [if_neg k2]
   by_cases k3 : l.kind = 3
   ·rw [if_pos k3]
    exact ⟨matFault_zero hR hK (by rw [upto_length]; exact hlen') (inEnds_upto fun k hk => clamp_clamp _), rfl, rfl⟩
   ·rw [if_neg k3]
    exact ⟨matFault_zero hR hK (by rw [upto_length]; exact hlen') (inEnds_upto fun k hk => hin' k hk), rfl, rfl⟩
section
variable {l : Lay} {R K k : Nat} {xs : List Int} (hk : k ≤ R)
include hk
theorem go_parts (hf : l.goFault ⟨R, K, xs⟩ = 0) :
  l.goFault (topOf R K xs k) = 0 ∧ l.goFault (botOf R K xs k) = 0 ∧ stackFault [l.go (topOf R K xs k), l.go (botOf R K xs k)] = 0 ∧ matStack [l.go (topOf R K xs k), l.go (botOf R K xs k)] = l.go ⟨R, K, xs⟩ := by
 obtain ⟨hl, hx, ht⟩ := Lay.goFault_ok hf
 obtain ⟨h1, h2, fw, fb, fit⟩ := Lay.fault_ok hl
 obtain ⟨R', K', eR, eK, hR, hK, hlen, hin⟩ := matFault_ok hx
 dsimp only at eR eK hlen hin
 obtain rfl : R = R' := by omega
 obtain rfl : K = K' := by omega
 have f1 : l.goFault (topOf R K xs k) = 0 := by unfold Lay.goFault; rw [if_neg (by simp [hl]), if_neg (by simp [top_fault hk hlen hR hK hin]), if_pos (show l.takes (topOf R K xs k).cols from ht)]
 have f2 : l.goFault (botOf R K xs k) = 0 := by unfold Lay.goFault; rw [if_neg (by simp [hl]), if_neg (by simp [bot_fault hk hlen hR hK hin]), if_pos (show l.takes (botOf R K xs k).cols from ht)]
 have hkK := kK (K := K) hk hlen
 refine ⟨f1, f2, stack_two hk hlen (go_fault f1) (go_fault f2) (by rw [go_cols, go_cols]; rfl) (by rw [go_rows', go_rows']; show (k : Int) + ((R - k : Nat) : Int) ≤ 24; omega), ?_⟩
 rw [stack_is hk hlen, go_rows', go_rows', go_cols]
 have hcell : (l.go (topOf R K xs k)).cells ++ (l.go (botOf R K xs k)).cells = (l.go ⟨R, K, xs⟩).cells := by
  have e1 : (xs.take (k * K)).length = k * K := by rw [List.length_take]; omega
  have e2 : (xs.drop (k * K)).length = R * K - k * K := by rw [List.length_drop]; omega
  have e3 : xs.take (k * K) ++ xs.drop (k * K) = xs := List.take_append_drop _ _
  unfold Lay.go
  by_cases k1 : l.kind = 1
  ·simp only [if_pos k1]
   obtain ⟨Q, C, ws, hW, hQ, hC, hlw, _⟩ := mat_form fw
   have e := ht.1 k1
   rw [hW] at e ⊢
   dsimp only at e
   obtain rfl : K = Q := by omega
   have hp := congrArg Mat.cells (mul_parts (C := C) (ys := ws) hk hlen)
   rw [stack_is hk hlen] at hp
   dsimp only at hp ⊢
   rw [← hp, more_append (a := k)]
   exact matMul_cells k K C _ _
  ·simp only [if_neg k1]
   by_cases k2 : l.kind = 2
   ·simp only [if_pos k2]
    show upto _ (xs.take (k * K)).length ++ upto _ (xs.drop (k * K)).length = upto _ xs.length
    rw [e1, e2, hlen, upto_parts _ hkK]
    congr 1
    ·exact upto_congr fun j hj => by show max (ix (xs.take (k * K)) j) 0 = _; rw [ix_take hj]
    ·exact upto_congr fun j hj => by show max (ix (xs.drop (k * K)) j) 0 = _; rw [ix_drop]
   ·simp only [if_neg k2]
    by_cases k3 : l.kind = 3
    ·simp only [if_pos k3]
     show upto _ (xs.take (k * K)).length ++ upto _ (xs.drop (k * K)).length = upto _ xs.length
     rw [e1, e2, hlen, upto_parts _ hkK]
     congr 1
     ·exact upto_congr fun j hj => by show mul (ix (xs.take (k * K)) j) _ = _; rw [ix_take hj]
     ·exact upto_congr fun j hj => by show mul (ix (xs.drop (k * K)) j) _ = _; rw [ix_drop]
    ·simp only [if_neg k3]
     show moreCells (xs.take (k * K)) _ (K : Int).toNat ++ moreCells (xs.drop (k * K)) _ (K : Int).toNat = moreCells xs _ (K : Int).toNat
     rw [Int.toNat_natCast, ← more_append (a := k) e1, e3]
 rw [hcell]
 have e4 : (topOf R K xs k).rows + (botOf R K xs k).rows = (l.go ⟨R, K, xs⟩).rows := by rw [go_rows']; show (k : Int) + ((R - k : Nat) : Int) = R; omega
 have e5 : l.wide (topOf R K xs k).cols = (l.go ⟨R, K, xs⟩).cols := by rw [go_cols]; rfl
 rw [e4, e5]
end
theorem zeros_inEnds (n : Nat) : inEnds (zeros n) := fun j _ => by rw [zeros_ix]; exact clamp_zero
section
variable {R K : Nat} {xs : List Int} (hK1 : 1 ≤ K) (hf : (⟨R, K, xs⟩ : Mat).fault = 0)
include hK1 hf
end
end Gal
end
section
set_option linter.unusedVariables false
set_option linter.unusedSimpArgs false
namespace Gal
def Lay.none : Lay := ⟨0, Mat.none, Mat.none⟩
def lx (n : List Lay) (i : Nat) : Lay := n[i]?.getD Lay.none
theorem lx_get {n : List Lay} {i : Nat} (h : i < n.length) : n[i]? = some (lx n i) := by unfold lx; rw [List.getElem?_eq_getElem h]; rfl
def netW (n : List Lay) (i : Int) : Nat → Int
 | 0 => i
 | k + 1 => (lx n k).wide (netW n i k)
def wideTo (n : List Lay) (i : Int) : Nat → Int
 | 0 => 0
 | k + 1 => if wideTo n i k = 0 then (lx n k).wideFault (netW n i k) else wideTo n i k
def netWideFault (n : List Lay) (i : Int) : Int :=
 if 12 < n.length then 3 else if n.length = 0 ∧ (i < 0 ∨ 12 < i) then 1 else wideTo n i n.length
def netTo (n : List Lay) (x : Mat) : Nat → Mat
 | 0 => x
 | k + 1 => (lx n k).go (netTo n x k)
def goTo (n : List Lay) (x : Mat) : Nat → Int
 | 0 => 0
 | k + 1 => if goTo n x k = 0 then (lx n k).goFault (netTo n x k) else goTo n x k
def netGoFault (n : List Lay) (x : Mat) : Int := if 12 < n.length then 3 else if x.fault ≠ 0 then x.fault else goTo n x n.length
def netOuts (n : List Lay) (x : Mat) (k : Nat) : List Mat := (List.range (k + 1)).map (netTo n x)
theorem netOuts_succ (n : List Lay) (x : Mat) (k : Nat) : netOuts n x (k + 1) = netOuts n x k ++ [netTo n x (k + 1)] := by
 unfold netOuts
 rw [List.range_succ (n := k + 1), List.map_append]
 rfl
theorem netOuts_length (n : List Lay) (x : Mat) (k : Nat) : (netOuts n x k).length = k + 1 := by simp [netOuts]
theorem netOuts_last (n : List Lay) (x : Mat) (k : Nat) : (netOuts n x k)[k]? = some (netTo n x k) := by simp [netOuts]
theorem wideTo_stop {n : List Lay} {i : Int} {k m : Nat} (h : k ≤ m) (hk : wideTo n i k ≠ 0) : wideTo n i m = wideTo n i k := by
  induction m with
  | zero => obtain rfl : k = 0 := by omega
            rfl
  | succ m ih =>
    by_cases hm : k ≤ m
    · have := ih hm
      show (if wideTo n i m = 0 then _ else wideTo n i m) = _
      rw [if_neg (by rw [this]; exact hk), this]
    · obtain rfl : k = m + 1 := by omega
      rfl
theorem goTo_stop {n : List Lay} {x : Mat} {k m : Nat} (h : k ≤ m) (hk : goTo n x k ≠ 0) : goTo n x m = goTo n x k := by
  induction m with
  | zero => obtain rfl : k = 0 := by omega
            rfl
  | succ m ih =>
    by_cases hm : k ≤ m
    · have := ih hm
      show (if goTo n x m = 0 then _ else goTo n x m) = _
      rw [if_neg (by rw [this]; exact hk), this]
    · obtain rfl : k = m + 1 := by omega
      rfl
theorem wideTo_succ {n : List Lay} {i : Int} {k : Nat} (h : wideTo n i k = 0) : wideTo n i (k + 1) = (lx n k).wideFault (netW n i k) := if_pos h
theorem goTo_succ {n : List Lay} {x : Mat} {k : Nat} (h : goTo n x k = 0) : goTo n x (k + 1) = (lx n k).goFault (netTo n x k) := if_pos h
theorem wide_bd {l : Lay} {i : Int} (h : l.wideFault i = 0) : 0 ≤ l.wide i ∧ l.wide i ≤ 12 := by
 obtain ⟨h1, h2, h3, h4⟩ := Lay.wideFault_ok h
 obtain ⟨_, _, fw, _, _⟩ := Lay.fault_ok h1
 obtain ⟨R, K, _, e, _, hK, _⟩ := matFault_ok fw
 unfold Lay.wide
 by_cases q : l.kind = 1
 ·rw [if_pos q]; omega
 ·rw [if_neg q]; omega
theorem netW_bd {n : List Lay} {i : Int} {k : Nat} (h : wideTo n i k = 0) (hk : 0 < k) : 0 ≤ netW n i k ∧ netW n i k ≤ 12 := by
 cases k with
 | zero => omega
 | succ k =>
  by_cases h0 : wideTo n i k = 0
  ·rw [wideTo_succ h0] at h
   exact wide_bd h
  ·have : wideTo n i (k + 1) = wideTo n i k := if_neg h0
   rw [this] at h
   exact absurd h h0
theorem netTo_fault {n : List Lay} {x : Mat} {k : Nat} (hx : x.fault = 0) (h : goTo n x k = 0) : (netTo n x k).fault = 0 := by
 cases k with
 | zero => exact hx
 | succ k =>
  by_cases h0 : goTo n x k = 0
  ·rw [goTo_succ h0] at h
   exact go_fault h
  ·have : goTo n x (k + 1) = goTo n x k := if_neg h0
   rw [this] at h
   exact absurd h h0
end Gal
end
section
set_option linter.unusedVariables false
set_option linter.unusedSimpArgs false
namespace Gal
def gx (ds : List Grd) (i : Nat) : Grd := ds[i]?.getD Grd.none
theorem gx_get {ds : List Grd} {i : Nat} (h : i < ds.length) : ds[i]? = some (gx ds i) := by unfold gx; rw [List.getElem?_eq_getElem h]; rfl
def stepSpeed (w v d : Mat) (kp : Int) : Mat := ⟨w.rows, w.cols, upto (fun k => add (mul (ix v.cells k) kp) (ix d.cells k)) w.cells.length⟩
def stepTo (w v d : Mat) (ln kp : Int) : Mat := ⟨w.rows, w.cols, upto (fun k => sub (ix w.cells k) (mul (add (mul (ix v.cells k) kp) (ix d.cells k)) ln)) w.cells.length⟩
def likeShape (a b : Mat) : Prop := a.rows = b.rows ∧ a.cols = b.cols
instance (a b : Mat) : Decidable (likeShape a b) := by unfold likeShape; exact inferInstance
def fitsFault (l : Lay) (v d : Grd) : Int :=
 if l.fault ≠ 0 then l.fault else if v.W.fault ≠ 0 then v.W.fault else if v.B.fault ≠ 0 then v.B.fault else if d.W.fault ≠ 0 then d.W.fault else if d.B.fault ≠ 0 then d.B.fault else
  if likeShape v.W l.W ∧ likeShape v.B l.B ∧ likeShape d.W l.W ∧ likeShape d.B l.B then 0 else 2
theorem fitsFault_ok {l : Lay} {v d : Grd} (h : fitsFault l v d = 0) : l.fault = 0 ∧ v.W.fault = 0 ∧ v.B.fault = 0 ∧ d.W.fault = 0 ∧ d.B.fault = 0 ∧ likeShape v.W l.W ∧ likeShape v.B l.B ∧ likeShape d.W l.W ∧ likeShape d.B l.B := by
 unfold fitsFault at h
 by_cases h1 : l.fault = 0
 ·rw [if_neg (by simp [h1])] at h
  by_cases h2 : v.W.fault = 0
  ·rw [if_neg (by simp [h2])] at h
   by_cases h3 : v.B.fault = 0
   ·rw [if_neg (by simp [h3])] at h
    by_cases h4 : d.W.fault = 0
    ·rw [if_neg (by simp [h4])] at h
     by_cases h5 : d.B.fault = 0
     ·rw [if_neg (by simp [h5])] at h
      by_cases h6 : likeShape v.W l.W ∧ likeShape v.B l.B ∧ likeShape d.W l.W ∧ likeShape d.B l.B
      ·exact ⟨h1, h2, h3, h4, h5, h6⟩
      ·rw [if_neg h6] at h; omega
     ·rw [if_pos h5] at h; exact absurd h h5
    ·rw [if_pos h4] at h; exact absurd h h4
   ·rw [if_pos h3] at h; exact absurd h h3
  ·rw [if_pos h2] at h; exact absurd h h2
 ·rw [if_pos h1] at h; exact absurd h h1
def stepFaultTo (ls : List Lay) (vs ds : List Grd) : Nat → Int
 | 0 => 0
 | k + 1 => if stepFaultTo ls vs ds k = 0 then fitsFault (lx ls k) (gx vs k) (gx ds k) else stepFaultTo ls vs ds k
def stepFault (ls : List Lay) (vs ds : List Grd) (ln kp : Int) : Int :=
 if ln < 0 ∨ 256 < ln ∨ kp < 0 ∨ 256 < kp then 1 else if 12 < ls.length then 3 else if vs.length ≠ ls.length ∨ ds.length ≠ ls.length then 2 else stepFaultTo ls vs ds ls.length
theorem stepFaultTo_succ {ls : List Lay} {vs ds : List Grd} {k : Nat} (h : stepFaultTo ls vs ds k = 0) : stepFaultTo ls vs ds (k + 1) = fitsFault (lx ls k) (gx vs k) (gx ds k) := if_pos h
theorem stepFaultTo_stop {ls : List Lay} {vs ds : List Grd} {k m : Nat} (h : k ≤ m) (hk : stepFaultTo ls vs ds k ≠ 0) : stepFaultTo ls vs ds m = stepFaultTo ls vs ds k := by
  induction m with
  | zero => obtain rfl : k = 0 := by omega
            rfl
  | succ m ih =>
    by_cases hm : k ≤ m
    · have := ih hm
      show (if stepFaultTo ls vs ds m = 0 then _ else stepFaultTo ls vs ds m) = _
      rw [if_neg (by rw [this]; exact hk), this]
    · obtain rfl : k = m + 1 := by omega
      rfl
def stepLay (l : Lay) (v d : Grd) (ln kp : Int) : Lay := ⟨l.kind, stepTo l.W v.W d.W ln kp, stepTo l.B v.B d.B ln kp⟩
def stepGrd (l : Lay) (v d : Grd) (kp : Int) : Grd := ⟨stepSpeed l.W v.W d.W kp, stepSpeed l.B v.B d.B kp⟩
def stepLays (ls : List Lay) (vs ds : List Grd) (ln kp : Int) (k : Nat) : List Lay := (List.range k).map fun i => stepLay (lx ls i) (gx vs i) (gx ds i) ln kp
def stepGrds (ls : List Lay) (vs ds : List Grd) (kp : Int) (k : Nat) : List Grd := (List.range k).map fun i => stepGrd (lx ls i) (gx vs i) (gx ds i) kp
theorem stepLays_length (ls : List Lay) (vs ds : List Grd) (ln kp : Int) (k : Nat) : (stepLays ls vs ds ln kp k).length = k := by simp [stepLays]
theorem stepGrds_length (ls : List Lay) (vs ds : List Grd) (kp : Int) (k : Nat) : (stepGrds ls vs ds kp k).length = k := by simp [stepGrds]
theorem stepLays_succ (ls : List Lay) (vs ds : List Grd) (ln kp : Int) (k : Nat) : stepLays ls vs ds ln kp (k + 1) = stepLays ls vs ds ln kp k ++ [stepLay (lx ls k) (gx vs k) (gx ds k) ln kp] := by simp [stepLays, List.range_succ]
theorem stepGrds_succ (ls : List Lay) (vs ds : List Grd) (kp : Int) (k : Nat) : stepGrds ls vs ds kp (k + 1) = stepGrds ls vs ds kp k ++ [stepGrd (lx ls k) (gx vs k) (gx ds k) kp] := by simp [stepGrds, List.range_succ]
end Gal
end
