/- Texts joined: Train5, PCut, PCut2. -/
import Derived.Test.YtchngeagnlngaaaJ34
import Derived.Test.YtchngeagnlngaaaJ35
import Derived.Test.YtchngeagnlngaaaJ04
section
set_option linter.unusedVariables false
set_option linter.unusedSimpArgs false
set_option linter.unusedSectionVars false
set_option maxRecDepth 100000
namespace Gal
open Go Go.RowKit
theorem int_one {W : Go.World} {b : Nat} {x : Int} {t : Go.TypeId} (h : Box W b [.int .i64 x] t) : IntsAt W (some ⟨b, 0, none⟩) 1 1 b 0 [x] :=
 ⟨rfl, Nat.le_refl _, by decide, fun _ => rfl, fun _ => h.lt, fun i (hi : i < 1) => by
  obtain rfl : i = 0 := by omega
  exact h.cell 0⟩
def factL : Lay := ⟨3, ⟨1, 1, [256]⟩, Mat.none⟩
def factS : Sta := ⟨[factL], zeroNet [factL], 0⟩
def factB : Bat := ⟨⟨1, 1, [256]⟩, ⟨1, 1, [512]⟩⟩
theorem fact_one : oneFault factS factB 1 128 0 = 0 ∧ oneOff factS factB 1 = 128 ∧ (oneOf factS factB 1 128 0).N.length = 1 ∧ (lx (oneOf factS factB 1 128 0).N 0).W.cells = [384] ∧ (oneOf factS factB 1 128 0).steps = 1 := by decide +kernel
theorem factL_small : ∀ i, i < 1 → (lx [factL] i).W.cells.length * 8 ≤ 140737488355328 ∧ (lx [factL] i).B.cells.length * 8 ≤ 140737488355328 := fun i hi => by
 obtain rfl : i = 0 := by omega
 decide
end Gal
namespace Go.Proofs.Ytchngeagnlngaaa
open Go.RowKit Gal
set_option maxHeartbeats 8000000
theorem topOne_any (w : World) : Calls Try.prog 6 #[] w fun e w' => e = .returned (.bool true) ∧ Below w.heap.size w w' := by
 obtain ⟨g1, g2, g3, g4, g5⟩ := fact_one
 have G1 := Lib.hid g1
 have G2 := Lib.hid g2
 have G3 := Lib.hid g3
 have G4 := Lib.hid g4
 have G5 := Lib.hid g5
 have GE : Hid (errV (oneFault factS factB 1 128 0) = .nilIface) := Lib.hid (errV_nil g1)
 clear g1 g2 g3 g4 g5
 go_enter Try.func6, Try.ntmps6
 go_wp2_with fail
 refine (trainBegin_any [factL] anyB _ 1 1 (w.heap.size + 1) 0 _ (row_one (T := 69) (show Box _ (w.heap.size + 1) [.int .i64 3, .int .i64 1, .int .i64 1, .slice (some ⟨w.heap.size, 0, none⟩) 1 1, .int .i64 0, .int .i64 0, .slice none 0 0] 69 from Box.x0) (show Form.lay.reads _ anyB [.int .i64 3, .int .i64 1, .int .i64 1, .slice (some ⟨w.heap.size, 0, none⟩) 1 1, .int .i64 0, .int .i64 0, .slice none 0 0] factL from reads_lay (l := factL) (b := w.heap.size) (o := 0) (b' := 0) (o' := 0) (fun _ => trivial) (int_one (t := 3) (show Box _ w.heap.size [.int .i64 256] 3 from Box.x0)) (fun _ => trivial) (noInts _)) trivial) factL_small (by decide)).mono ?_
 rintro e w1 ⟨v1, rfl, hb1, a9, n9, k9, b9, a8, n8, k8, b8, rfl, q0, q1⟩
 have hbw1 : Below w.heap.size w w1 := (Below.x1 hb1)
 have q0w := q0
 clear hb1
 go_wp2_with fail
 refine (trainOne_any factS factB 1 128 0 _ _ _ _ _ _ _ _ _ _ _ _ _ _ (q0.alloc _ |>.alloc _ |>.alloc _ |>.alloc _) (q1.alloc _ |>.alloc _ |>.alloc _ |>.alloc _) ⟨some ⟨w1.heap.size + 1, 0, none⟩, 1, 1, w1.heap.size + 1, 0, some ⟨w1.heap.size + 1 + 1, 0, none⟩, 1, 1, w1.heap.size + 1 + 1, 0, rfl, int_one (t := 3) (show Box _ (w1.heap.size + 1) [.int .i64 256] 3 from Box.x0), int_one (t := 3) (show Box _ (w1.heap.size + 1 + 1) [.int .i64 512] 3 from Box.x0)⟩).mono ?_
 rintro e w2 ⟨vO, off, rfl, hb2, hO, _⟩
 obtain ⟨rfl, aN, nN, kN, bN, aV, nV, kV, bV, rfl, r0, r1⟩ := hO G1.out
 rw [GE.out, G2.out, G5.out]
 have hbe : Below w.heap.size w w2 := (Below.y1 hb2 hbw1)
 have hnN : nN = 1 := by rw [← r0.len]; exact G3.out
 subst hnN
 obtain rfl := r0.ptr (by decide)
 obtain ⟨a1, n1, k1, b1, o1, a2, n2, k2, b2, o2, c0, c1, c2, c3, c4, c5, c6, x1, x2⟩ := lay_cells r0 (i := 0) (by decide)
 rw [G4.out] at x1
 have hn1 : n1 = 1 := by rw [← x1.len]; rfl
 subst hn1
 obtain rfl := x1.ptr (by decide)
 have xc := x1.cell 0 (by decide)
 have hl0 := r0.lt (by decide)
 have hl1 := x1.lt (by decide)
 simp only [Nat.zero_mul, Nat.zero_add, Nat.add_zero] at c3 xc
 rw [show ix [384] 0 = 384 from rfl] at xc
 clear hO q0 q1 q0w hb2 hbw1 c0 c1 c2 c4 c5 c6 x2 r1
 go_wp2
 go_ret
 exact ⟨rfl, (Below.y0 hbe)⟩
end Go.Proofs.Ytchngeagnlngaaa
end
section
set_option linter.unusedVariables false
set_option linter.unusedSimpArgs false
namespace Gal
section
variable (c : Nat → Int) (n : Nat) (L : Int)
def sg (k : Nat) : Nat → Int
 | 0 => 0
 | d + 1 => sg k d + c (k + d)
def Fits : Nat → Nat → Prop
 | 0, k => k = n
 | s + 1, k => ∃ d, 1 ≤ d ∧ k + d ≤ n ∧ sg c k d ≤ L ∧ Fits s (k + d)
def gFrom (k d : Nat) : Nat → Nat
 | 0 => d
 | m + 1 => if sg c k d + c (k + d) ≤ L then gFrom k (d + 1) m else d
def gl (k : Nat) : Nat := gFrom c L k 0 (n - k)
def tl (d : Nat) : Nat := if h : d = 0 then 0 else if hg : gl c n L (n - d) = 0 then n + 1 else 1 + tl (d - gl c n L (n - d))
termination_by d
decreasing_by omega
end
section
variable {c : Nat → Int} {n : Nat} {L : Int}
theorem sg_succ (k d : Nat) : sg c k (d + 1) = sg c k d + c (k + d) := rfl
theorem sg_mono (hc : ∀ i, 0 ≤ c i) {k d e : Nat} (h : d ≤ e) : sg c k d ≤ sg c k e := by
  induction e with
  | zero => obtain rfl : d = 0 := by omega
            exact Int.le_refl _
  | succ e ih =>
    rcases Nat.lt_or_ge d (e + 1) with h1 | h1
    · have h2 := ih (by omega)
      have h3 := hc (k + e)
      rw [sg_succ]
      omega
    · obtain rfl : d = e + 1 := by omega
      exact Int.le_refl _
theorem sg_nn (hc : ∀ i, 0 ≤ c i) (k d : Nat) : 0 ≤ sg c k d := sg_mono hc (Nat.zero_le d)
theorem sg_split (k d e : Nat) : sg c k (d + e) = sg c k d + sg c (k + d) e := by
 induction e with
 | zero => simp [sg]
 | succ e ih =>
  rw [← Nat.add_assoc, sg_succ, sg_succ, ih, show k + d + e = k + (d + e) by omega]
  omega
theorem sg_one (hc : ∀ i, 0 ≤ c i) {k d i : Nat} (h : i < d) : c (k + i) ≤ sg c k d := by
 have h1 := sg_mono hc (k := k) (show i + 1 ≤ d by omega)
 have h2 := sg_nn hc k i
 rw [sg_succ] at h1
 omega
theorem gFrom_spec (hc : ∀ i, 0 ≤ c i) {k : Nat} : ∀ m d, sg c k d ≤ L → sg c k (gFrom c L k d m) ≤ L ∧ d ≤ gFrom c L k d m ∧ gFrom c L k d m ≤ d + m ∧ ∀ e, e ≤ d + m → sg c k e ≤ L → e ≤ gFrom c L k d m
 | 0, d, h => ⟨h, Nat.le_refl _, Nat.le_refl _, fun e he _ => he⟩
 | m + 1, d, h => by
  unfold gFrom
  by_cases h1 : sg c k d + c (k + d) ≤ L
  ·rw [if_pos h1]
   obtain ⟨a1, a2, a3, a4⟩ := gFrom_spec hc m (d + 1) h1
   exact ⟨a1, by omega, by omega, fun e he hs => a4 e (by omega) hs⟩
  ·rw [if_neg h1]
   refine ⟨h, Nat.le_refl _, by omega, fun e he hs => ?_⟩
   rcases Nat.lt_or_ge d e with h2 | h2
   ·have := sg_mono hc (k := k) (show d + 1 ≤ e from h2)
    rw [sg_succ] at this
    omega
   ·exact h2
theorem gl_spec (hc : ∀ i, 0 ≤ c i) (hL : 0 ≤ L) (k : Nat) : sg c k (gl c n L k) ≤ L ∧ gl c n L k ≤ n - k ∧ ∀ e, e ≤ n - k → sg c k e ≤ L → e ≤ gl c n L k := by
 obtain ⟨a1, _, a3, a4⟩ := gFrom_spec (L := L) hc (k := k) (n - k) 0 hL
 exact ⟨a1, by simpa [gl] using a3, fun e he hs => a4 e (by omega) hs⟩
theorem fits_le : ∀ {s k : Nat}, Fits c n L s k → k ≤ n ∧ s ≤ n - k
  | 0, k, h => by have : k = n := h
                  omega
  | s + 1, k, ⟨d, h1, h2, _, h4⟩ => by
    have := fits_le h4
    omega
theorem fits_later (hc : ∀ i, 0 ≤ c i) : ∀ {s k k' : Nat}, Fits c n L s k → k ≤ k' → k' ≤ n → ∃ s', s' ≤ s ∧ Fits c n L s' k'
  | 0, k, k', h, h1, h2 => ⟨0, Nat.le_refl _, by have : k = n := h
                                                 show k' = n
                                                 omega⟩
  | s + 1, k, k', ⟨d, d1, d2, d3, d4⟩, h1, h2 => by
    rcases Nat.lt_or_ge k' (k + d) with h3 | h3
    · refine ⟨s + 1, Nat.le_refl _, k + d - k', by omega, by omega, ?_, ?_⟩
      · have h4 := sg_split (c := c) k (k' - k) (k + d - k')
        rw [show k' - k + (k + d - k') = d by omega, show k + (k' - k) = k' by omega] at h4
        have h5 := sg_nn hc k (k' - k)
        omega
      · rw [show k' + (k + d - k') = k + d by omega]
        exact d4
    · obtain ⟨s', a1, a2⟩ := fits_later hc d4 h3 h2
      exact ⟨s', by omega, a2⟩
theorem tl_zero : tl c n L 0 = 0 := by unfold tl; simp
theorem tl_none {d : Nat} (h : d ≠ 0) (hg : gl c n L (n - d) = 0) : tl c n L d = n + 1 := by unfold tl; rw [dif_neg h, dif_pos hg]
theorem tl_some {d : Nat} (h : d ≠ 0) (hg : gl c n L (n - d) ≠ 0) : tl c n L d = 1 + tl c n L (d - gl c n L (n - d)) := by rw [tl, dif_neg h, dif_neg hg]
theorem tl_least (hc : ∀ i, 0 ≤ c i) (hL : 0 ≤ L) : ∀ (s d : Nat), d ≤ n → Fits c n L s (n - d) → tl c n L d ≤ s := by
 intro s
 induction s using Nat.strongRecOn with
 | ind s ih =>
  intro d hd h
  cases s with
  | zero =>
   have : n - d = n := h
   obtain rfl : d = 0 := by omega
   rw [tl_zero]
   exact Nat.le_refl _
  | succ s =>
   obtain ⟨e, e1, e2, e3, e4⟩ := h
   obtain ⟨_, g2, g3⟩ := gl_spec (n := n) hc hL (n - d)
   have g4 := g3 e (by omega) e3
   have h0 : d ≠ 0 := by omega
   rw [tl_some h0 (by omega)]
   obtain ⟨s', a1, a2⟩ := fits_later hc e4 (show n - d + e ≤ n - (d - gl c n L (n - d)) by omega) (by omega)
   have := ih s' (by omega) _ (by omega) a2
   omega
theorem tl_each (hc : ∀ i, 0 ≤ c i) (hL : 0 ≤ L) : ∀ (d : Nat), d ≤ n → tl c n L d ≤ n → ∀ i, n - d ≤ i → i < n → c i ≤ L := by
 intro d
 induction d using Nat.strongRecOn with
 | ind d ih =>
  intro hd h i h1 h2
  have h0 : d ≠ 0 := by omega
  obtain ⟨g1, g2, _⟩ := gl_spec (n := n) hc hL (n - d)
  by_cases hg : gl c n L (n - d) = 0
  ·rw [tl_none h0 hg] at h; omega
  ·rw [tl_some h0 hg] at h
   rcases Nat.lt_or_ge i (n - d + gl c n L (n - d)) with h3 | h3
   ·have := sg_one hc (k := n - d) (show i - (n - d) < gl c n L (n - d) by omega)
    rw [show n - d + (i - (n - d)) = i by omega] at this
    omega
   ·exact ih (d - gl c n L (n - d)) (by omega) (by omega) (by omega) i (by omega) h2
theorem fits_single : ∀ (d : Nat), d ≤ n → (∀ i, n - d ≤ i → i < n → c i ≤ L) → Fits c n L d (n - d)
 | 0, _, _ => by show n - 0 = n; omega
 | d + 1, hd, h => by
  refine ⟨1, Nat.le_refl _, by omega, ?_, ?_⟩
  ·have := h (n - (d + 1)) (Nat.le_refl _) (by omega)
   show 0 + c (n - (d + 1) + 0) ≤ L
   rw [Nat.add_zero]
   omega
  ·rw [show n - (d + 1) + 1 = n - d by omega]
   exact fits_single d (by omega) fun i h1 h2 => h i (by omega) h2
theorem tl_fits (hc : ∀ i, 0 ≤ c i) (hL : 0 ≤ L) : ∀ (d s : Nat), d ≤ n → tl c n L d ≤ s → s ≤ d → Fits c n L s (n - d) := by
 intro d
 induction d using Nat.strongRecOn with
 | ind d ih =>
  intro s hd h hs
  by_cases h0 : d = 0
  ·subst h0
   obtain rfl : s = 0 := by omega
   show n - 0 = n
   omega
  ·obtain ⟨g1, g2, g3⟩ := gl_spec (n := n) hc hL (n - d)
   by_cases hg : gl c n L (n - d) = 0
   ·rw [tl_none h0 hg] at h; omega
   ·have he := tl_each hc hL d hd (by omega)
    rw [tl_some h0 hg] at h
    obtain ⟨s, rfl⟩ : ∃ t, s = t + 1 := ⟨s - 1, by omega⟩
    rcases Nat.lt_or_ge (d - gl c n L (n - d)) s with h1 | h1
    ·refine ⟨d - s, by omega, by omega, Int.le_trans (sg_mono hc (by omega)) g1, ?_⟩
     rw [show n - d + (d - s) = n - s by omega]
     exact fits_single s (by omega) fun i h2 h3 => he i (by omega) h3
    ·refine ⟨gl c n L (n - d), by omega, by omega, g1, ?_⟩
     rw [show n - d + gl c n L (n - d) = n - (d - gl c n L (n - d)) by omega]
     exact ih _ (by omega) s (by omega) (by omega) h1
theorem fits_iff (hc : ∀ i, 0 ≤ c i) (hL : 0 ≤ L) {d s : Nat} (hd : d ≤ n) : Fits c n L s (n - d) ↔ tl c n L d ≤ s ∧ s ≤ d :=
 ⟨fun h => ⟨tl_least hc hL s d hd h, by have := (fits_le h).2; omega⟩, fun h => tl_fits hc hL d s hd h.1 h.2⟩
theorem fits_more {M : Int} (hLM : L ≤ M) : ∀ {s k : Nat}, Fits c n L s k → Fits c n M s k
 | 0, k, h => h
 | s + 1, k, ⟨d, h1, h2, h3, h4⟩ => ⟨d, h1, h2, Int.le_trans h3 hLM, fits_more hLM h4⟩
end
end Gal
end
section
set_option linter.unusedVariables false
set_option linter.unusedSimpArgs false
namespace Gal
section
variable (c : Nat → Int) (n : Nat)
def comps : Nat → Nat → List (List Nat)
 | 0, k => if k = n then [[]] else []
 | s + 1, k => (List.range (n - k)).flatMap fun j => (comps s (k + 1 + j)).map fun es => (k + 1 + j) :: es
def worst (k : Nat) : List Nat → Int
 | [] => 0
 | e :: es => max (sg c k (e - k)) (worst e es)
end
def FirstMin {α : Type} (f : α → Int) (l : List α) (x : α) : Prop := ∃ a b, l = a ++ x :: b ∧ (∀ y ∈ a, f x < f y) ∧ (∀ y ∈ b, f x ≤ f y)
section
variable {α β : Type} {f : α → Int} {l m : List α} {x y : α}
theorem FirstMin.one : FirstMin f [x] x := ⟨[], [], rfl, fun y h => absurd h List.not_mem_nil, fun y h => absurd h List.not_mem_nil⟩
theorem FirstMin.mem (h : FirstMin f l x) : x ∈ l := by
 obtain ⟨a, b, rfl, _, _⟩ := h
 simp
theorem FirstMin.le (h : FirstMin f l x) (hy : y ∈ l) : f x ≤ f y := by
 obtain ⟨a, b, rfl, h1, h2⟩ := h
 rcases List.mem_append.1 hy with h3 | h3
 ·have := h1 y h3; omega
 ·rcases List.mem_cons.1 h3 with rfl | h3
  ·exact Int.le_refl _
  ·exact h2 y h3
theorem FirstMin.right (hx : FirstMin f l x) (hy : FirstMin f m y) (h : f y < f x) : FirstMin f (l ++ m) y := by
 obtain ⟨a, b, rfl, h1, h2⟩ := hy
 exact ⟨l ++ a, b, by simp, fun z hz => by
  rcases List.mem_append.1 hz with h3 | h3
  ·have := hx.le h3; omega
  ·exact h1 z h3, h2⟩
theorem FirstMin.left (hx : FirstMin f l x) (hy : FirstMin f m y) (h : f x ≤ f y) : FirstMin f (l ++ m) x := by
 obtain ⟨a, b, rfl, h1, h2⟩ := hx
 exact ⟨a, b ++ m, by simp, h1, fun z hz => by
  rcases List.mem_append.1 hz with h3 | h3
  ·exact h2 z h3
  ·have := hy.le h3; omega⟩
theorem FirstMin.map {g : β → α} {l : List β} {z : β} (h : FirstMin (fun w => f (g w)) l z) : FirstMin f (l.map g) (g z) := by
 obtain ⟨a, b, rfl, h1, h2⟩ := h
 refine ⟨a.map g, b.map g, by simp, fun y hy => ?_, fun y hy => ?_⟩
 ·obtain ⟨w, hw, rfl⟩ := List.mem_map.1 hy
  exact h1 w hw
 ·obtain ⟨w, hw, rfl⟩ := List.mem_map.1 hy
  exact h2 w hw
theorem FirstMin.find (h : FirstMin f l x) : l.find? (fun y => decide (f y ≤ f x)) = some x := by
 obtain ⟨a, b, rfl, h1, _⟩ := h
 rw [List.find?_append]
 have : a.find? (fun y => decide (f y ≤ f x)) = none := List.find?_eq_none.2 fun y hy => by
  have := h1 y hy
  simp
  omega
 rw [this]
 simp
theorem FirstMin.congr {g : α → Int} (h : FirstMin f l x) (hg : ∀ y ∈ l, g y = f y) : FirstMin g l x := by
 obtain ⟨a, b, rfl, h1, h2⟩ := h
 refine ⟨a, b, rfl, fun y hy => ?_, fun y hy => ?_⟩
 ·rw [hg y (by simp [hy]), hg x (by simp)]; exact h1 y hy
 ·rw [hg y (by simp [hy]), hg x (by simp)]; exact h2 y hy
end
section
variable (c : Nat → Int) (n : Nat)
def better (acc : Option (List Nat × Int)) (r : List Nat × Int) : Option (List Nat × Int) :=
 match acc with
 | none => some r
 | some a => if r.2 < a.2 then some r else some a
def refBest : Nat → Int → Nat → List Nat × Int
 | 0, P, k => ([n], max P (sg c k (n - k)))
 | s + 1, P, k => ((List.range (n - k - (s + 1))).foldl (fun acc j => better acc ((fun r => ((k + 1 + j) :: r.1, r.2)) (refBest s (max P (sg c k (j + 1))) (k + 1 + j)))) none).getD ([], -1)
def pickAt (L : Int) (s k : Nat) : Option Nat := (List.range (n - k)).find? fun j => decide (sg c k (j + 1) ≤ L ∧ tl c n L (n - (k + 1 + j)) ≤ s ∧ s ≤ n - (k + 1 + j))
def picks (L : Int) : Nat → Nat → List Nat
 | 0, _ => []
 | s + 1, k => match pickAt c n L s k with
  | none => []
  | some j => (k + 1 + j) :: picks L s (k + 1 + j)
end
section
variable {c : Nat → Int} {n : Nat} {L : Int}
theorem comps_le : ∀ {s k : Nat} {es : List Nat}, es ∈ comps n s k → k ≤ n ∧ s ≤ n - k
 | 0, k, es, h => by
  unfold comps at h
  by_cases hk : k = n
  ·omega
  ·rw [if_neg hk] at h; cases h
 | s + 1, k, es, h => by
  unfold comps at h
  obtain ⟨j, hj, h1⟩ := List.mem_flatMap.1 h
  obtain ⟨es', h2, _⟩ := List.mem_map.1 h1
  have := comps_le h2
  have := List.mem_range.1 hj
  omega
theorem comps_nil {s k : Nat} (h : n - k < s) : comps n s k = [] := by
 cases hc : comps n s k with
 | nil => rfl
 | cons x l => have := (comps_le (s := s) (k := k) (by rw [hc]; exact List.mem_cons_self)).2; omega
theorem comps_last {k : Nat} (h : k < n) : comps n 1 k = [[n]] := by
 unfold comps
 rw [show n - k = (n - k - 1) + 1 by omega, List.range_succ, List.flatMap_append]
 have h1 : (List.range (n - k - 1)).flatMap (fun j => (comps n 0 (k + 1 + j)).map fun es => (k + 1 + j) :: es) = [] := by
  rw [List.flatMap_eq_nil_iff]
  intro j hj
  have := List.mem_range.1 hj
  unfold comps
  rw [if_neg (by omega)]
  rfl
 rw [h1, List.nil_append]
 have e : k + 1 + (n - k - 1) = n := by omega
 simp [comps, e]
theorem worst_nn (hc : ∀ i, 0 ≤ c i) : ∀ (es : List Nat) (k : Nat), 0 ≤ worst c k es
 | [], _ => Int.le_refl _
 | e :: es, k => by
  have := sg_nn hc k (e - k)
  unfold worst
  omega
def compsTo (n s k t : Nat) : List (List Nat) := (List.range t).flatMap fun j => (comps n s (k + 1 + j)).map fun es => (k + 1 + j) :: es
theorem compsTo_succ {n s k t : Nat} : compsTo n s k (t + 1) = compsTo n s k t ++ (comps n s (k + 1 + t)).map fun es => (k + 1 + t) :: es := by
 unfold compsTo
 rw [List.range_succ, List.flatMap_append]
 simp
theorem compsTo_all {n s k : Nat} (h : s + 1 ≤ n - k) : comps n (s + 1) k = compsTo n s k (n - k - s) := by
 unfold compsTo
 rw [comps, show n - k = (n - k - s) + s by omega, List.range_add, List.flatMap_append]
 have h1 : ((List.range s).map (n - k - s + s - s + ·)).flatMap (fun j => (comps n s (k + 1 + j)).map fun es => (k + 1 + j) :: es) = [] := by
  rw [List.flatMap_eq_nil_iff]
  intro j hj
  obtain ⟨i, hi, rfl⟩ := List.mem_map.1 hj
  have := List.mem_range.1 hi
  rw [comps_nil (by omega)]
  rfl
 rw [show n - k - s + s - s = n - k - s by omega] at h1 ⊢
 rw [h1, List.append_nil]
theorem refBest_is (hc : ∀ i, 0 ≤ c i) : ∀ (s : Nat) (P : Int) (k : Nat), s + 1 ≤ n - k →
  FirstMin (fun es => max P (worst c k es)) (comps n (s + 1) k) (refBest c n s P k).1 ∧ (refBest c n s P k).2 = max P (worst c k (refBest c n s P k).1) := by
 intro s
 induction s with
 | zero =>
  intro P k hk
  rw [comps_last (by omega)]
  refine ⟨FirstMin.one, ?_⟩
  show max P (sg c k (n - k)) = max P (max (sg c k (n - k)) 0)
  have := sg_nn hc k (n - k)
  omega
 | succ s ih =>
  intro P k hk
  have key : ∀ t, t ≤ n - k - (s + 1) → (t = 0 ∧ (List.range t).foldl (fun acc j => better acc ((fun r => ((k + 1 + j) :: r.1, r.2)) (refBest c n s (max P (sg c k (j + 1))) (k + 1 + j)))) none = none) ∨
    ∃ r, (List.range t).foldl (fun acc j => better acc ((fun r => ((k + 1 + j) :: r.1, r.2)) (refBest c n s (max P (sg c k (j + 1))) (k + 1 + j)))) none = some r ∧ FirstMin (fun es => max P (worst c k es)) (compsTo n (s + 1) k t) r.1 ∧ r.2 = max P (worst c k r.1) := by
   intro t
   induction t with
   | zero => intro _; exact Or.inl ⟨rfl, rfl⟩
   | succ t iht =>
    intro ht
    obtain ⟨a1, a2⟩ := ih (max P (sg c k (t + 1))) (k + 1 + t) (by omega)
    have hfun : ∀ es, max P (worst c k ((k + 1 + t) :: es)) = max (max P (sg c k (t + 1))) (worst c (k + 1 + t) es) := fun es => by
     show max P (max (sg c k (k + 1 + t - k)) (worst c (k + 1 + t) es)) = _
     rw [show k + 1 + t - k = t + 1 by omega]
     omega
    have b1 : FirstMin (fun es => max P (worst c k es)) ((comps n (s + 1) (k + 1 + t)).map fun es => (k + 1 + t) :: es) ((k + 1 + t) :: (refBest c n s (max P (sg c k (t + 1))) (k + 1 + t)).1) :=
     FirstMin.map (g := fun es => (k + 1 + t) :: es) (a1.congr fun y _ => hfun y)
    have b2 : (refBest c n s (max P (sg c k (t + 1))) (k + 1 + t)).2 = max P (worst c k ((k + 1 + t) :: (refBest c n s (max P (sg c k (t + 1))) (k + 1 + t)).1)) := a2.trans (hfun _).symm
    rw [List.range_succ, List.foldl_append, compsTo_succ]
    right
    rcases iht (by omega) with ⟨rfl, h0⟩ | ⟨r, h0, h1, h2⟩
    ·rw [h0]
     exact ⟨_, rfl, by simpa [compsTo] using b1, b2⟩
    ·rw [h0]
     by_cases hlt : (refBest c n s (max P (sg c k (t + 1))) (k + 1 + t)).2 < r.2
     ·refine ⟨((k + 1 + t) :: (refBest c n s (max P (sg c k (t + 1))) (k + 1 + t)).1, (refBest c n s (max P (sg c k (t + 1))) (k + 1 + t)).2), ?_, h1.right b1 ?_, b2⟩
      ·simp [better, hlt]
      ·rw [← b2, ← h2]; exact hlt
     ·refine ⟨r, ?_, h1.left b1 ?_, h2⟩
      ·simp [better, hlt]
      ·rw [← b2, ← h2]; omega
  rw [compsTo_all (by omega)]
  rcases key (n - k - (s + 1)) (Nat.le_refl _) with ⟨h0, _⟩ | ⟨r, h0, h1, h2⟩
  ·omega
  ·have e : refBest c n (s + 1) P k = r := by
    unfold refBest
    rw [h0]
    rfl
   rw [e]
   exact ⟨h1, h2⟩
end
end Gal
end
