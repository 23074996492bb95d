/- Plain: the best cuts: the first ones, in order, of those whose dearest part costs least. No program in sight. -/
import Derived.Test.YtjaepdkeldgikaaDoorPCut
set_option linter.unusedVariables false
set_option linter.unusedSimpArgs false
namespace Gal
section
variable (c : Nat → Int) (n : Nat)
/-- all cuts of the layers from k on into s parts, in order: where each part ends -/
def comps : Nat → Nat → List (List Nat)
  | 0, k => if k = n then [[]] else []
  | s + 1, k => (List.range (n - k)).flatMap fun j => (comps s (k + 1 + j)).map fun es => (k + 1 + j) :: es
/-- what the dearest part costs -/
def worst (k : Nat) : List Nat → Int
  | [] => 0
  | e :: es => max (sg c k (e - k)) (worst e es)
end
/-- the first one of those of which f is least -/
def FirstMin {α : Type} (f : α → Int) (l : List α) (x : α) : Prop := ∃ a b, l = a ++ x :: b ∧ (∀ y ∈ a, f x < f y) ∧ (∀ y ∈ b, f x ≤ f y)
section
variable {α β : Type} {f : α → Int} {l m : List α} {x y : α}
theorem FirstMin.one : FirstMin f [x] x := ⟨[], [], rfl, fun y h => absurd h List.not_mem_nil, fun y h => absurd h List.not_mem_nil⟩
theorem FirstMin.mem (h : FirstMin f l x) : x ∈ l := by
  obtain ⟨a, b, rfl, _, _⟩ := h
  simp
theorem FirstMin.le (h : FirstMin f l x) (hy : y ∈ l) : f x ≤ f y := by
  obtain ⟨a, b, rfl, h1, h2⟩ := h
  rcases List.mem_append.1 hy with h3 | h3
  · have := h1 y h3; omega
  · rcases List.mem_cons.1 h3 with rfl | h3
    · exact Int.le_refl _
    · exact h2 y h3
theorem FirstMin.right (hx : FirstMin f l x) (hy : FirstMin f m y) (h : f y < f x) : FirstMin f (l ++ m) y := by
  obtain ⟨a, b, rfl, h1, h2⟩ := hy
  exact ⟨l ++ a, b, by simp, fun z hz => by
    rcases List.mem_append.1 hz with h3 | h3
    · have := hx.le h3; omega
    · exact h1 z h3, h2⟩
theorem FirstMin.left (hx : FirstMin f l x) (hy : FirstMin f m y) (h : f x ≤ f y) : FirstMin f (l ++ m) x := by
  obtain ⟨a, b, rfl, h1, h2⟩ := hx
  exact ⟨a, b ++ m, by simp, h1, fun z hz => by
    rcases List.mem_append.1 hz with h3 | h3
    · exact h2 z h3
    · have := hy.le h3; omega⟩
theorem FirstMin.map {g : β → α} {l : List β} {z : β} (h : FirstMin (fun w => f (g w)) l z) : FirstMin f (l.map g) (g z) := by
  obtain ⟨a, b, rfl, h1, h2⟩ := h
  refine ⟨a.map g, b.map g, by simp, fun y hy => ?_, fun y hy => ?_⟩
  · obtain ⟨w, hw, rfl⟩ := List.mem_map.1 hy
    exact h1 w hw
  · obtain ⟨w, hw, rfl⟩ := List.mem_map.1 hy
    exact h2 w hw
theorem FirstMin.nils (h : FirstMin f l x) (hm : m = []) : FirstMin f (l ++ m) x := by rw [hm, List.append_nil]; exact h
theorem FirstMin.find (h : FirstMin f l x) : l.find? (fun y => decide (f y ≤ f x)) = some x := by
  obtain ⟨a, b, rfl, h1, _⟩ := h
  rw [List.find?_append]
  have : a.find? (fun y => decide (f y ≤ f x)) = none := List.find?_eq_none.2 fun y hy => by
    have := h1 y hy
    simp
    omega
  rw [this]
  simp
theorem FirstMin.congr {g : α → Int} (h : FirstMin f l x) (hg : ∀ y ∈ l, g y = f y) : FirstMin g l x := by
  obtain ⟨a, b, rfl, h1, h2⟩ := h
  refine ⟨a, b, rfl, fun y hy => ?_, fun y hy => ?_⟩
  · rw [hg y (by simp [hy]), hg x (by simp)]; exact h1 y hy
  · rw [hg y (by simp [hy]), hg x (by simp)]; exact h2 y hy
end
section
variable (c : Nat → Int) (n : Nat)
/-- who of two is taken -/
def better (acc : Option (List Nat × Int)) (r : List Nat × Int) : Option (List Nat × Int) :=
  match acc with
  | none => some r
  | some a => if r.2 < a.2 then some r else some a
/-- the document: all cuts that go on so are looked at, in order; s + 1 parts are to come, the dearest one so far costs P -/
def refBest : Nat → Int → Nat → List Nat × Int
  | 0, P, k => ([n], max P (sg c k (n - k)))
  | s + 1, P, k => ((List.range (n - k - (s + 1))).foldl (fun acc j => better acc ((fun r => ((k + 1 + j) :: r.1, r.2)) (refBest s (max P (sg c k (j + 1))) (k + 1 + j)))) none).getD ([], -1)
/-- the first ends within a limit -/
def pickAt (L : Int) (s k : Nat) : Option Nat := (List.range (n - k)).find? fun j => decide (sg c k (j + 1) ≤ L ∧ tl c n L (n - (k + 1 + j)) ≤ s ∧ s ≤ n - (k + 1 + j))
def picks (L : Int) : Nat → Nat → List Nat
  | 0, _ => []
  | s + 1, k => match pickAt c n L s k with
    | none => []
    | some j => (k + 1 + j) :: picks L s (k + 1 + j)
end
section
variable {c : Nat → Int} {n : Nat} {L : Int}
theorem comps_le : ∀ {s k : Nat} {es : List Nat}, es ∈ comps n s k → k ≤ n ∧ s ≤ n - k
  | 0, k, es, h => by
    unfold comps at h
    by_cases hk : k = n
    · omega
    · rw [if_neg hk] at h; cases h
  | s + 1, k, es, h => by
    unfold comps at h
    obtain ⟨j, hj, h1⟩ := List.mem_flatMap.1 h
    obtain ⟨es', h2, _⟩ := List.mem_map.1 h1
    have := comps_le h2
    have := List.mem_range.1 hj
    omega
theorem comps_nil {s k : Nat} (h : n - k < s) : comps n s k = [] := by
  cases hc : comps n s k with
  | nil => rfl
  | cons x l => have := (comps_le (s := s) (k := k) (by rw [hc]; exact List.mem_cons_self)).2; omega
theorem comps_last {k : Nat} (h : k < n) : comps n 1 k = [[n]] := by
  unfold comps
  rw [show n - k = (n - k - 1) + 1 by omega, List.range_succ, List.flatMap_append]
  have h1 : (List.range (n - k - 1)).flatMap (fun j => (comps n 0 (k + 1 + j)).map fun es => (k + 1 + j) :: es) = [] := by
    rw [List.flatMap_eq_nil_iff]
    intro j hj
    have := List.mem_range.1 hj
    unfold comps
    rw [if_neg (by omega)]
    rfl
  rw [h1, List.nil_append]
  have e : k + 1 + (n - k - 1) = n := by omega
  simp [comps, e]
theorem worst_nn (hc : ∀ i, 0 ≤ c i) : ∀ (es : List Nat) (k : Nat), 0 ≤ worst c k es
  | [], _ => Int.le_refl _
  | e :: es, k => by
    have := sg_nn hc k (e - k)
    unfold worst
    omega
/-- the cuts whose first part has t layers at most -/
def compsTo (n s k t : Nat) : List (List Nat) := (List.range t).flatMap fun j => (comps n s (k + 1 + j)).map fun es => (k + 1 + j) :: es
theorem compsTo_succ {n s k t : Nat} : compsTo n s k (t + 1) = compsTo n s k t ++ (comps n s (k + 1 + t)).map fun es => (k + 1 + t) :: es := by
  unfold compsTo
  rw [List.range_succ, List.flatMap_append]
  simp
theorem compsTo_all {n s k : Nat} (h : s + 1 ≤ n - k) : comps n (s + 1) k = compsTo n s k (n - k - s) := by
  unfold compsTo
  rw [comps, show n - k = (n - k - s) + s by omega, List.range_add, List.flatMap_append]
  have h1 : ((List.range s).map (n - k - s + s - s + ·)).flatMap (fun j => (comps n s (k + 1 + j)).map fun es => (k + 1 + j) :: es) = [] := by
    rw [List.flatMap_eq_nil_iff]
    intro j hj
    obtain ⟨i, hi, rfl⟩ := List.mem_map.1 hj
    have := List.mem_range.1 hi
    rw [comps_nil (by omega)]
    rfl
  rw [show n - k - s + s - s = n - k - s by omega] at h1 ⊢
  rw [h1, List.append_nil]
/-- the document's answer is the first one of the best -/
theorem refBest_is (hc : ∀ i, 0 ≤ c i) : ∀ (s : Nat) (P : Int) (k : Nat), s + 1 ≤ n - k →
    FirstMin (fun es => max P (worst c k es)) (comps n (s + 1) k) (refBest c n s P k).1 ∧ (refBest c n s P k).2 = max P (worst c k (refBest c n s P k).1) := by
  intro s
  induction s with
  | zero =>
    intro P k hk
    rw [comps_last (by omega)]
    refine ⟨FirstMin.one, ?_⟩
    show max P (sg c k (n - k)) = max P (max (sg c k (n - k)) 0)
    have := sg_nn hc k (n - k)
    omega
  | succ s ih =>
    intro P k hk
    have key : ∀ t, t ≤ n - k - (s + 1) → (t = 0 ∧ (List.range t).foldl (fun acc j => better acc ((fun r => ((k + 1 + j) :: r.1, r.2)) (refBest c n s (max P (sg c k (j + 1))) (k + 1 + j)))) none = none) ∨
        ∃ r, (List.range t).foldl (fun acc j => better acc ((fun r => ((k + 1 + j) :: r.1, r.2)) (refBest c n s (max P (sg c k (j + 1))) (k + 1 + j)))) none = some r ∧ FirstMin (fun es => max P (worst c k es)) (compsTo n (s + 1) k t) r.1 ∧ r.2 = max P (worst c k r.1) := by
      intro t
      induction t with
      | zero => intro _; exact Or.inl ⟨rfl, rfl⟩
      | succ t iht =>
        intro ht
        obtain ⟨a1, a2⟩ := ih (max P (sg c k (t + 1))) (k + 1 + t) (by omega)
        have hfun : ∀ es, max P (worst c k ((k + 1 + t) :: es)) = max (max P (sg c k (t + 1))) (worst c (k + 1 + t) es) := fun es => by
          show max P (max (sg c k (k + 1 + t - k)) (worst c (k + 1 + t) es)) = _
          rw [show k + 1 + t - k = t + 1 by omega]
          omega
        have b1 : FirstMin (fun es => max P (worst c k es)) ((comps n (s + 1) (k + 1 + t)).map fun es => (k + 1 + t) :: es) ((k + 1 + t) :: (refBest c n s (max P (sg c k (t + 1))) (k + 1 + t)).1) :=
          FirstMin.map (g := fun es => (k + 1 + t) :: es) (a1.congr fun y _ => hfun y)
        have b2 : (refBest c n s (max P (sg c k (t + 1))) (k + 1 + t)).2 = max P (worst c k ((k + 1 + t) :: (refBest c n s (max P (sg c k (t + 1))) (k + 1 + t)).1)) := a2.trans (hfun _).symm
        rw [List.range_succ, List.foldl_append, compsTo_succ]
        right
        rcases iht (by omega) with ⟨rfl, h0⟩ | ⟨r, h0, h1, h2⟩
        · rw [h0]
          exact ⟨_, rfl, by simpa [compsTo] using b1, b2⟩
        · rw [h0]
          by_cases hlt : (refBest c n s (max P (sg c k (t + 1))) (k + 1 + t)).2 < r.2
          · refine ⟨((k + 1 + t) :: (refBest c n s (max P (sg c k (t + 1))) (k + 1 + t)).1, (refBest c n s (max P (sg c k (t + 1))) (k + 1 + t)).2), ?_, h1.right b1 ?_, b2⟩
            · simp [better, hlt]
            · rw [← b2, ← h2]; exact hlt
          · refine ⟨r, ?_, h1.left b1 ?_, h2⟩
            · simp [better, hlt]
            · rw [← b2, ← h2]; omega
    rw [compsTo_all (by omega)]
    rcases key (n - k - (s + 1)) (Nat.le_refl _) with ⟨h0, _⟩ | ⟨r, h0, h1, h2⟩
    · omega
    · have e : refBest c n (s + 1) P k = r := by
        unfold refBest
        rw [h0]
        rfl
      rw [e]
      exact ⟨h1, h2⟩
end
end Gal
