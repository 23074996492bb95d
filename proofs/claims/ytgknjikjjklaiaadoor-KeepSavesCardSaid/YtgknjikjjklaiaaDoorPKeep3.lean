/- Plain: how long a state's bytes are, part by part. No program in sight. -/
import Derived.Test.YtgknjikjjklaiaaDoorPKeep
import Derived.Test.YtgknjikjjklaiaaDoorKeep2
set_option linter.unusedVariables false
set_option linter.unusedSimpArgs false
namespace Gal
open Go Go.RowKit
/-- the four matrices of a layer and its speed -/
def q4 (l : Lay) (v : Grd) : Nat → Mat | 0 => l.W | 1 => l.B | 2 => v.W | _ => v.B
def penTo (l : Lay) (v : Grd) : Nat → List Nat
  | 0 => []
  | j + 1 => penTo l v j ++ matNums (q4 l v j)
theorem part_pen (l : Lay) (v : Grd) : partNums l v = [l.kind.toNat] ++ penTo l v 4 := by simp [partNums, penTo, q4]
theorem st_part {s : Sta} (h : s.fault = 0) {k : Nat} (hk : k < s.N.length) : 1 ≤ (lx s.N k).kind ∧ (lx s.N k).kind ≤ 4 ∧ ∀ j, (q4 (lx s.N k) (gx s.V k) j).fault = 0 := by
  obtain ⟨_, _, _, h1, h2⟩ := Sta.fault_ok h
  obtain ⟨e1, e2, e3, e4, _⟩ := Lay.fault_ok (h1 k hk)
  obtain ⟨g1, g2, _⟩ := h2.2 k hk
  refine ⟨e1, e2, fun j => ?_⟩
  match j with
  | 0 => exact e3
  | 1 => exact e4
  | 2 => exact g1
  | j + 3 => exact g2
theorem matNums_len_all {m : Mat} (h : m.fault = 0) : ((matNums m).flatMap seven).length ≤ 2610 := by
  have := matNums_take_len h (matNums m).length
  rwa [List.take_length] at this
theorem penTo_len {l : Lay} {v : Grd} (h : ∀ j, (q4 l v j).fault = 0) : ∀ j, ((penTo l v j).flatMap seven).length ≤ 2610 * j
  | 0 => by simp [penTo]
  | j + 1 => by
    have h1 := penTo_len h j
    have h2 := matNums_len_all (h j)
    rw [penTo, List.flatMap_append, List.length_append]
    omega
theorem netNums_len {s : Sta} (h : s.fault = 0) : ∀ k, k ≤ s.N.length → ((netNums s.N s.V k).flatMap seven).length ≤ 10449 * k
  | 0, _ => by simp [netNums]
  | k + 1, hk => by
    have h1 := netNums_len h k (by omega)
    obtain ⟨e1, e2, e3⟩ := st_part h (k := k) (by omega)
    have h2 := penTo_len e3 4
    have h3 := seven_9 (x := (lx s.N k).kind.toNat) (by omega)
    rw [netNums, part_pen, List.flatMap_append, List.flatMap_append, List.length_append, List.length_append]
    simp only [List.flatMap_cons, List.flatMap_nil, List.append_nil]
    omega
/-- what the pen has written ahead of the layers -/
def headOf (s : Sta) : List Nat := [71, 1] ++ seven s.steps.toNat ++ seven s.N.length
theorem headOf_len {s : Sta} (h : s.fault = 0) : (headOf s).length ≤ 20 := by
  obtain ⟨h1, h2, h3, _⟩ := Sta.fault_ok h
  have e1 := seven_9 (x := s.steps.toNat) (by omega)
  have e2 := seven_9 (x := s.N.length) (by omega)
  unfold headOf
  simp only [List.length_append, List.length_cons, List.length_nil]
  omega
theorem staBytes_is (s : Sta) : staBytes s = withSums (headOf s ++ (netNums s.N s.V s.N.length).flatMap seven) := by
  unfold staBytes staNums headOf
  simp
theorem netNums_next (N : List Lay) (V : List Grd) (k : Nat) (H : List Nat) : (H ++ (netNums N V k).flatMap seven ++ seven (lx N k).kind.toNat) ++ (penTo (lx N k) (gx V k) 4).flatMap seven = H ++ (netNums N V (k + 1)).flatMap seven := by
  rw [netNums, part_pen]
  simp
/-! ### a pen's row, whatever was put behind it -/
theorem PenGo.store {R : Nat} {w wr w1 w' : World} {v u v' : Value} (h : PenGo R w wr v u) (h1 : Below wr.heap.size wr w1) (hg : w1.grownBy w' u.ownBlock) (hl : ∀ g, v'.ownBlock = some g → u.ownBlock = some g ∨ wr.heap.size ≤ g) (x : Value) : PenGo R w (w'.setCell ⟨R, 0, none⟩ x) v v' := by
  refine ⟨((h.far.go h1).grown hg fun k hk hlt => ?_).st (fun _ => Or.inl rfl) x, fun q hq => ?_⟩
  · rcases h.own k hk with h2 | h2
    · exact Or.inr h2
    · omega
  · rcases hl q hq with h2 | h2
    · exact h.own q h2
    · exact Or.inr (Nat.le_trans h.far.size h2)
theorem pen_store {α : Type} {f : Form α} {E T : TypeId} {R base : Nat} {wr w1 w' : World} {u v' : Value} {ys : List α} (hB : Box wr R [u] T) (hne : u.ownBlock ≠ some R) (h1 : Below wr.heap.size wr w1) (hg : w1.grownBy w' u.ownBlock) (hl : ∀ g, v'.ownBlock = some g → u.ownBlock = some g ∨ wr.heap.size ≤ g)
    (hown : OwnRow f E w' base noK v' ys) :
    Box (w'.setCell ⟨R, 0, none⟩ v') R [v'] T ∧ OwnRow f E (w'.setCell ⟨R, 0, none⟩ v') base noK v' ys ∧ v'.ownBlock ≠ some R := by
  have hn : v'.ownBlock ≠ some R := fun e => by
    rcases hl R e with h2 | h2
    · exact hne h2
    · have := hB.lt; omega
  have h2 : Box w' R [u] T := (hB.keep h1).grown hg (fun e => hne e.symm)
  exact ⟨h2.set 0 _, hown.set hn (fun hh => hh.elim) _, hn⟩
theorem flat_bytes {w : World} {F : Nat → Prop} : ∀ xs : List Nat, (∀ x ∈ xs, x < 256) → Flat Form.u8 w F (xs.map fun (x : Nat) => Value.int .u8 (x : Int)) xs
  | [], _ => rfl
  | x :: xs, h => ⟨[.int .u8 (x : Int)], xs.map fun (x : Nat) => Value.int .u8 (x : Int), rfl, ⟨rfl, h x (by simp)⟩, flat_bytes xs fun y hy => h y (by simp [hy])⟩
/-- a box of bytes, as a row of the call's own -/
theorem own_bytes {E : TypeId} {w : World} {base b : Nat} {F : Nat → Prop} {xs : List Nat} (h : Box w b (xs.map fun (x : Nat) => Value.int .u8 (x : Int)) E) (hx : ∀ x ∈ xs, x < 256) (hb : base ≤ b) (hl : xs.length ≤ maxLen) : OwnRow Form.u8 E w base F (.slice (some ⟨b, 0, none⟩) xs.length xs.length) xs :=
  ⟨xs.map fun (x : Nat) => Value.int .u8 (x : Int), ⟨by simp [Form.u8], Or.inr ⟨b, xs.length, (xs.map fun (x : Nat) => Value.int .u8 (x : Int)).toArray, rfl, hb, h, Nat.le_refl _, hl, by simp [Form.u8], by show List.take (xs.length * 1) (xs.map _) = _; rw [Nat.mul_one]; exact List.take_of_length_le (by simp)⟩⟩, flat_bytes xs hx⟩
end Gal
