/- Texts joined: Lay12, LayShort, OwnOne. -/
import Derived.Test.YtgknjikjjklaiaaJ21
import Derived.Test.YtgknjikjjklaiaaJ04
section
set_option linter.unusedVariables false
set_option linter.unusedSimpArgs false
namespace Go.Proofs.Ytgknjikjjklaiaa
open Go.RowKit Gal
set_option maxRecDepth 100000
theorem cf_back1 (vs : Array Value) (W : World) : (callFunc 73 vs).run Try.prog W = .ok (.enter 73 vs) W := by kernel_rfl
theorem cf_back2 (vs : Array Value) (W : World) : (callFunc 87 vs).run Try.prog W = .ok (.enter 87 vs) W := by kernel_rfl
theorem cf_back3 (vs : Array Value) (W : World) : (callFunc 93 vs).run Try.prog W = .ok (.enter 93 vs) W := by kernel_rfl
theorem cf_back4 (vs : Array Value) (W : World) : (callFunc 97 vs).run Try.prog W = .ok (.enter 97 vs) W := by kernel_rfl
theorem layBack_any (l : Lay) (x g : Mat) (v u t : Value) (w : World) (h : LayAt w v l) (hu : MatAt w u x) (ht : MatAt w t g) : Calls Try.prog 19 #[v, u, t] w (BackPost w l x g) := by
 obtain ⟨a, n, k, b, o, a', n', k', b', o', rfl, x0, x1⟩ := h
 obtain ⟨a2, n2, k2, b2, o2, rfl, x2⟩ := hu
 obtain ⟨a3, n3, k3, b3, o3, rfl, x3⟩ := ht
 by_cases hf : l.backFault x g = 0
 ·obtain ⟨f1, f2, f3, f4, f5⟩ := Lay.backFault_ok hf
  obtain ⟨g1, g2, g3⟩ := Lay.goFault_ok f1
  obtain ⟨h1, h2, _, _, _⟩ := Lay.fault_ok g1
  obtain ⟨kd, W, B⟩ := l
  dsimp only at h1 h2 x0 x1 ⊢
  rcases (by omega : kd = 1 ∨ kd = 2 ∨ kd = 3 ∨ kd = 4) with rfl | rfl | rfl | rfl
  ·exact layBack_gen 1 W B x g 108 73 a a' a2 a3 n n' n2 n3 k k' k2 k3 b b' b2 b3 o o' o2 o3 w x0 x1 x2 x3 hf of_1 m_back_1 n_back_1 cf_back1 fun U y0 y1 y2 y3 => back_1 W B x g a2 a3 a a' n2 k2 b2 o2 n3 k3 b3 o3 n k b o n' k' U y2 y3 y0 ⟨⟨g1, g2, g3⟩, f2, f3, f4, f5⟩
  ·exact layBack_gen 2 W B x g 111 87 a a' a2 a3 n n' n2 n3 k k' k2 k3 b b' b2 b3 o o' o2 o3 w x0 x1 x2 x3 hf of_2 m_back_2 n_back_2 cf_back2 fun U y0 y1 y2 y3 => back_2 W B x g a2 a3 a a' n2 k2 b2 o2 n3 k3 b3 o3 n k n' k' U y2 y3 ⟨⟨g1, g2, g3⟩, f2, f3, f4, f5⟩
  ·exact layBack_gen 3 W B x g 112 93 a a' a2 a3 n n' n2 n3 k k' k2 k3 b b' b2 b3 o o' o2 o3 w x0 x1 x2 x3 hf of_3 m_back_3 n_back_3 cf_back3 fun U y0 y1 y2 y3 => back_3 W B x g a2 a3 a a' n2 k2 b2 o2 n3 k3 b3 o3 n k b o n' k' U y2 y3 y0 ⟨⟨g1, g2, g3⟩, f2, f3, f4, f5⟩
  ·exact layBack_gen 4 W B x g 113 97 a a' a2 a3 n n' n2 n3 k k' k2 k3 b b' b2 b3 o o' o2 o3 w x0 x1 x2 x3 hf of_4 m_back_4 n_back_4 cf_back4 fun U y0 y1 y2 y3 => back_4 W B x g a2 a3 a a' n2 k2 n3 k3 b3 o3 n k n' k' U y3 ⟨⟨g1, g2, g3⟩, f2, f3, f4, f5⟩
 ·by_cases h1 : l.goFault x = 0
  ·by_cases h2 : g.fault = 0
   ·by_cases h3 : g.rows = x.rows
    ·by_cases h4 : g.cols = l.wide x.cols
     ·have h5 : l.kind = 1 ∧ 12 < x.rows := by
       by_cases h5 : l.kind = 1 ∧ 12 < x.rows
       ·exact h5
       ·refine absurd ?_ hf
        unfold Lay.backFault
        rw [if_neg (by simp [h1]), if_neg (by simp [h2]), if_neg (by simp [h3, h4]), if_neg h5]
      exact layBack_bad5 l x g a a' a2 a3 n n' n2 n3 k k' k2 k3 b b' b2 b3 o o' o2 o3 w x0 x1 x2 x3 h1 h2 h3 h4 h5.1 h5.2
     ·exact layBack_bad4 l x g a a' a2 a3 n n' n2 n3 k k' k2 k3 b b' b2 b3 o o' o2 o3 w x0 x1 x2 x3 h1 h2 h3 h4
    ·exact layBack_bad3 l x g a a' a2 a3 n n' n2 n3 k k' k2 k3 b b' b2 b3 o o' o2 o3 w x0 x1 x2 x3 h1 h2 h3
   ·exact layBack_bad2 l x g a a' a2 a3 n n' n2 n3 k k' k2 k3 b b' b2 b3 o o' o2 o3 w x0 x1 x2 x3 h1 h2
  ·exact layBack_bad1 l x g a a' a2 a3 n n' n2 n3 k k' k2 k3 b b' b2 b3 o o' o2 o3 w x0 x1 x2 x3 h1
end Go.Proofs.Ytgknjikjjklaiaa
end
section
set_option linter.unusedVariables false
set_option linter.unusedSimpArgs false
namespace Go.Proofs.Ytgknjikjjklaiaa
open Go.RowKit Gal
section
variable {l : Lay} {m y g : Mat} {v u t : Value} {w : World}
theorem layGo_is (h : LayAt w v l) (hu : MatAt w u m) (hf : l.goFault m = 0) (hy : l.go m = y) :
  Calls Try.prog 18 #[v, u] w fun e w' => ∃ x, e = .returned (.tuple #[x, .nilIface]) ∧ MatNew w.heap.size w' x y ∧ Below w.heap.size w w' := by
 have := layGo_any l m v u w h hu
 rw [orNone_ok hf, errV_nil hf, hy] at this
 exact this
theorem layGo_not (h : LayAt w v l) (hu : MatAt w u m) (hf : l.goFault m ≠ 0) :
  Calls Try.prog 18 #[v, u] w fun e w' => ∃ x, e = .returned (.tuple #[x, .iface 56 (.int .i64 (l.goFault m))]) ∧ MatNew w.heap.size w' x Mat.none ∧ Below w.heap.size w w' := by
 have := layGo_any l m v u w h hu
 rw [orNone_bad hf, errV_err hf] at this
 exact this
end
end Go.Proofs.Ytgknjikjjklaiaa
end
section
set_option linter.unusedVariables false
set_option linter.unusedSimpArgs false
set_option linter.unusedSectionVars false
namespace Gal
open Go Go.RowKit
theorem own_one {α : Type} {f : Form α} {E : TypeId} {w : World} {base b : Nat} {F : Nat → Prop} {cs : List Value} {x : α} (h : Box w b cs E) (hr : f.reads w (fun c => F c ∧ c ≠ b) cs x) (hb : base ≤ b) : OwnRow f E w base F (.slice (some ⟨b, 0, none⟩) 1 1) [x] := by
 have hl := f.len hr
 refine ⟨cs, ⟨by simp [hl], Or.inr ⟨b, 1, cs.toArray, rfl, hb, h, Nat.le_refl _, by unfold maxLen; omega, by simp [hl], by show List.take (1 * f.size) cs = cs; rw [Nat.one_mul, ← hl]; simp⟩⟩, Flat.single (f.wide (fun c hc _ => ⟨hc.1, fun e => hc.2 ?_⟩) hr)⟩
 simp [Value.ownBlock] at e
 exact e.symm
theorem IntsAt.grown {w w' : World} {a : Option Addr} {n cap b off : Nat} {xs : List Int} {row : Option Nat} (h : IntsAt w a n cap b off xs) (hg : w.grownBy w' row) (hne : 0 < n → some b ≠ row) : IntsAt w' a n cap b off xs :=
 ⟨h.len, h.le, h.maxc, h.ptr, fun hn => Nat.lt_of_lt_of_le (h.lt hn) hg.size, fun i hi => (World.cell?_of_block (a := ⟨b, off + i, none⟩) (hg.block b (h.lt (by omega)) (hne (by omega)))).trans (h.cell i hi)⟩
end Gal
end
