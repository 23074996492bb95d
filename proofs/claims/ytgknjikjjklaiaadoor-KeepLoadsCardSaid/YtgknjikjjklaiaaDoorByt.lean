/- Rows of bytes; a list of plain cells is put behind a row of the call's own. Over any program. -/
import Derived.Test.YtgknjikjjklaiaaDoorAppRow
import Derived.Laws.BitsAllLaws
set_option linter.unusedVariables false
set_option linter.unusedSimpArgs false
set_option linter.unusedSectionVars false
namespace Gal
open Go Go.RowKit
def Form.u8 : Form Nat where
  size := 1
  reads := fun _ _ cs x => cs = [.int .u8 (x : Int)] ∧ x < 256
  len := fun h => by rw [h.1]; rfl
  one := fun h u hu => by rw [h.1] at hu; simp at hu; rw [hu]; rfl
  wide := fun _ h => h
  keep := fun _ h => h
/-- no blocks -/
def noK (b : Nat) : Prop := False
/-- the i-th byte -/
def bt (xs : List Nat) (i : Nat) : Nat := xs[i]?.getD 0
theorem bt_get {xs : List Nat} {i : Nat} (h : i < xs.length) : xs[i]? = some (bt xs i) := by unfold bt; rw [List.getElem?_eq_getElem h]; rfl
theorem u8_cell {w : World} {F : Nat → Prop} {a : Option Addr} {n k b o : Nat} {xs : List Nat} (h : RowAt Form.u8 w F a n k b o xs) {i : Nat} (hi : i < n) : w.cell? ⟨b, o + i, none⟩ = some (.int .u8 (bt xs i : Int)) ∧ bt xs i < 256 := by
  obtain ⟨cs, ⟨rfl, h1⟩, h2⟩ := h.cell i (bt xs i) (bt_get (by rw [h.len]; exact hi))
  have h3 := h2 0 (by decide)
  rw [show Form.u8.size = 1 from rfl, Nat.mul_one, Nat.add_zero] at h3
  exact ⟨h3, h1⟩
theorem OwnRow.lower {α : Type} {f : Form α} {E : TypeId} {w : World} {base base' : Nat} {F : Nat → Prop} {v : Value} {xs : List α} (h : OwnRow f E w base F v xs) (hb : base' ≤ base) : OwnRow f E w base' F v xs := by
  obtain ⟨cs, ⟨h1, h2⟩, k⟩ := h.holds
  refine ⟨cs, ⟨h1, ?_⟩, k⟩
  rcases h2 with h2 | ⟨g, cap, cur, e, h3, r⟩
  · exact Or.inl h2
  · exact Or.inr ⟨g, cap, cur, e, Nat.le_trans hb h3, r⟩
/-- cells that lead nowhere -/
def Plainly {α : Type} (f : Form α) : Prop := ∀ (w w' : World) (F G : Nat → Prop) (cs : List Value) (x : α), f.reads w F cs x → f.reads w' G cs x
theorem u8_plainly : Plainly Form.u8 := fun _ _ _ _ _ _ h => h
theorem int_plainly : Plainly Form.int := fun _ _ _ _ _ _ h => h
theorem flat_any {α : Type} {f : Form α} (hp : Plainly f) {w w' : World} {F G : Nat → Prop} : ∀ {cs : List Value} {xs : List α}, Flat f w F cs xs → Flat f w' G cs xs
  | cs, [], h => h
  | cs, x :: xs, h => by
    obtain ⟨c, d, e, h1, h2⟩ := h
    exact ⟨c, d, e, hp _ _ _ _ _ _ h1, flat_any hp h2⟩
/-- a row of cells that lead nowhere reads alike in any blocks -/
theorem RowAt.any {α : Type} {f : Form α} (hp : Plainly f) {w : World} {F G : Nat → Prop} {a : Option Addr} {n k b o : Nat} {xs : List α} (h : RowAt f w F a n k b o xs) (hG : 0 < n → G b) : RowAt f w G a n k b o xs :=
  ⟨h.len, h.le, h.maxc, h.ptr, h.lt, hG, fun i x hx => by
    obtain ⟨cs, h1, h2⟩ := h.cell i x hx
    exact ⟨cs, hp _ _ _ _ _ _ h1, h2⟩⟩
/-- the first k of a row -/
theorem RowAt.firstk {α : Type} {f : Form α} {w : World} {F : Nat → Prop} {a : Option Addr} {n cap b off k : Nat} {xs : List α} (h : RowAt f w F a n cap b off xs) (hk : k ≤ n) : RowAt f w F a k cap b off (xs.take k) where
  len := by rw [List.length_take, h.len]; omega
  le := Nat.le_trans hk h.le
  maxc := h.maxc
  ptr := fun h0 => h.ptr (by omega)
  lt := fun h0 => h.lt (by omega)
  blk := fun h0 => h.blk (by omega)
  cell := fun i x hx => by
    have hi : i < k := by
      rcases Nat.lt_or_ge i k with h1 | h1
      · exact h1
      · rw [List.getElem?_eq_none (by rw [List.length_take]; omega)] at hx; cases hx
    rw [List.getElem?_take_of_lt hi] at hx
    exact h.cell i x hx
section
variable {P : Program} {w : World}
theorem wp_append_flat {α : Type} {o : Oper} {a : Act} {K : Act → World → Prop} {Q : Exit → Act → World → Prop} (s x : Operand) (t : TypeId)
    (ho : o.op = .call { callee := .builtin .append, args := #[s, x], argTypes := #[t, t] })
    (f : Form α) (hp : Plainly f) (base : Nat) (F : Nat → Prop) (e : TypeId) (i : TypeInfo) (z : Value) (bytes : Nat) (ht : P.underlying t = some (.slice e)) (hi : P.info? e = some i) (hz : i.zero = some z)
    (hsize : i.size = f.size) (hby : i.bytes = bytes) (hzs : z.cells.size = f.size) (hsz : 0 < f.size)
    (v : Value) (xs : List α) (hs : a.eval s = v) (hown : OwnRow f e w base F v xs)
    (G : Nat → Prop) (a' : Option Addr) (n' cap' b' off' : Nat) (ys : List α) (hx : a.eval x = .slice a' n' cap') (hy : RowAt f w G a' n' cap' b' off' ys)
    (hbytes : (xs.length + n') * bytes ≤ 140737488355328) (hlen : xs.length + n' ≤ maxLen) (hbase : base ≤ w.heap.size)
    (h : ∀ v' w', OwnRow f e w' base F v' (xs ++ ys) → w.grownBy w' v.ownBlock → (0 < n' → ∀ g, v'.ownBlock = some g → v.ownBlock = some g ∨ w.heap.size ≤ g) → K (a.put o.dst v') w') : o.wp P a w K Q := by
  obtain ⟨ds, hown1, hfl⟩ := hown.holds
  cases a' with
  | none =>
    have h0 : n' = 0 := by
      rcases Nat.eq_zero_or_pos n' with h0 | h0
      · exact h0
      · have := hy.ptr h0; cases this
    subst h0
    obtain rfl : ys = [] := List.eq_nil_of_length_eq_zero hy.len
    have hr := run_append_nil_src (P := P) base t o.type e i f.size ht hi hsize v xs.length _ hown1 cap'
    unfold Oper.wp execOp
    simp only [ho, resolve, invoke, builtin, Sem.run_bind, Sem.run_pure, Result.andThen_ok, List.map_toArray, List.map_cons, List.map_nil, hs, hx, hr]
    exact h v w (by rw [List.append_nil]; exact hown) ⟨rfl, rfl, rfl, Nat.le_refl _, fun _ _ _ => rfl⟩ fun h0 => absurd h0 (Nat.lt_irrefl _)
  | some A =>
    obtain ⟨cs, hfc, hcell⟩ := flat_of_cells ys off' hy.cell
    have hcl : cs.length = n' * f.size := by rw [hfc.len, hy.len]
    have hnew : ∀ j u, cs[j]? = some u → w.cell? (A.add j) = some u := fun j u hu => by
      have hj : 0 < n' := by
        rcases Nat.eq_zero_or_pos n' with h0 | h0
        · rw [h0, Nat.zero_mul] at hcl
          rw [List.eq_nil_of_length_eq_zero hcl] at hu
          simp at hu
        · exact h0
      have hp := hy.ptr hj
      cases hp
      have := hcell j u hu
      rw [← this]
      unfold Addr.add
      split
      · rename_i h0
        rw [h0, Nat.add_zero]
      · rfl
    have hfin : ∀ v' w', w'.ownsRow base e f.size v' (xs.length + n') (ds ++ cs) → OwnRow f e w' base F v' (xs ++ ys) := fun v' w' h2 => ⟨_, by rw [List.length_append, hy.len]; exact h2, (flat_any hp hfl).append (flat_any hp hfc)⟩
    rcases Nat.eq_zero_or_pos n' with h0 | h0
    · exact wp_append_own w s x t ho base e i z f.size bytes ht hi hz hsize hby hzs hsz v xs.length ds hs hown1 A n' cap' cs hx hcl hnew hfc.one hlen hbytes hbase fun v' w' h2 h3 _ => h v' w' (hfin v' w' h2) h3 fun h1 => absurd h1 (by omega)
    · exact wp_append_lies w s x t ho base e i z f.size bytes ht hi hz hsize hby hzs hsz v xs.length ds hs hown1 A n' cap' cs hx hcl hnew hfc.one h0 hlen hbytes hbase w.heap.size rfl fun g cap w' h2 h3 h4 h5 => h _ w' (hfin _ w' h2) h3 fun _ g' hg => by
        simp only [Value.ownBlock, Option.some.injEq] at hg
        subst hg
        rcases h4 with h4 | h4
        · exact Or.inl h4
        · exact Or.inr (Nat.le_of_eq h4.symm)
theorem wpList_append_flat {α : Type} {ops : Array Oper} {rest : List Oper} {o : Oper} {a : Act} {Q : Exit → Act → World → Prop} (hgd : o.guard = none) (s x : Operand) (t : TypeId)
    (ho : o.op = .call { callee := .builtin .append, args := #[s, x], argTypes := #[t, t] })
    (f : Form α) (hp : Plainly f) (base : Nat) (F : Nat → Prop) (e : TypeId) (i : TypeInfo) (z : Value) (bytes : Nat) (ht : P.underlying t = some (.slice e)) (hi : P.info? e = some i) (hz : i.zero = some z)
    (hsize : i.size = f.size) (hby : i.bytes = bytes) (hzs : z.cells.size = f.size) (hsz : 0 < f.size)
    (v : Value) (xs : List α) (hs : a.eval s = v) (hown : OwnRow f e w base F v xs)
    (G : Nat → Prop) (a' : Option Addr) (n' cap' b' off' : Nat) (ys : List α) (hx : a.eval x = .slice a' n' cap') (hy : RowAt f w G a' n' cap' b' off' ys)
    (hbytes : (xs.length + n') * bytes ≤ 140737488355328) (hlen : xs.length + n' ≤ maxLen) (hbase : base ≤ w.heap.size)
    (h : ∀ v' w', OwnRow f e w' base F v' (xs ++ ys) → w.grownBy w' v.ownBlock → (0 < n' → ∀ g, v'.ownBlock = some g → v.ownBlock = some g ∨ w.heap.size ≤ g) → wpList P ops Q rest (a.put o.dst v') w') : wpList P ops Q (o :: rest) a w :=
  wpList_plain hgd fun _ hK => wp_append_flat s x t ho f hp base F e i z bytes ht hi hz hsize hby hzs hsz v xs hs hown G a' n' cap' b' off' ys hx hy hbytes hlen hbase fun v' w' h2 h3 h4 => hK _ _ (h v' w' h2 h3 h4)
end
/-- a box of bytes, as a row -/
theorem u8_box {w : World} {F : Nat → Prop} {b : Nat} {xs : List Nat} {T : TypeId} (hb : Box w b (xs.map fun (x : Nat) => Value.int .u8 (x : Int)) T) (hx : ∀ x ∈ xs, x < 256) (hl : xs.length ≤ maxLen) (hF : F b) : RowAt Form.u8 w F (some ⟨b, 0, none⟩) xs.length xs.length b 0 xs where
  len := rfl
  le := Nat.le_refl _
  maxc := hl
  ptr := fun _ => rfl
  lt := fun _ => hb.lt
  blk := fun _ => hF
  cell := fun i x hx' => ⟨_, ⟨rfl, hx x (List.mem_of_getElem? hx')⟩, fun j hj => by
    obtain rfl : j = 0 := by have : Form.u8.size = 1 := rfl; omega
    rw [show Form.u8.size = 1 from rfl, Nat.mul_one, Nat.add_zero, Nat.zero_add, hb.cell, List.getElem?_map, hx']
    rfl⟩
theorem flat_ints {w : World} {F : Nat → Prop} : ∀ xs : List Int, Flat Form.int w F (xs.map (Value.int .i64)) xs
  | [] => rfl
  | x :: xs => ⟨[.int .i64 x], xs.map (Value.int .i64), rfl, rfl, flat_ints xs⟩
/-- a box of integers, as a row of the call's own -/
theorem own_ints {E : TypeId} {w : World} {base b : Nat} {F : Nat → Prop} {xs : List Int} (h : Box w b (xs.map (Value.int .i64)) E) (hb : base ≤ b) (hl : xs.length ≤ maxLen) : OwnRow Form.int E w base F (.slice (some ⟨b, 0, none⟩) xs.length xs.length) xs :=
  ⟨xs.map (Value.int .i64), ⟨by simp [Form.int], Or.inr ⟨b, xs.length, (xs.map (Value.int .i64)).toArray, rfl, hb, h, Nat.le_refl _, hl, by simp [Form.int], by show List.take (xs.length * 1) (xs.map _) = _; rw [Nat.mul_one]; exact List.take_of_length_le (by simp)⟩⟩, flat_ints xs⟩
/-- what is not below 128, as a byte that is not the last -/
theorem or_128 {x : Int} (h : 128 ≤ x) : bits .or .u8 (x % 256) 128 = ((128 + x.toNat % 128 : Nat) : Int) := by
  obtain ⟨y, rfl⟩ : ∃ y : Nat, x = y := ⟨x.toNat, by omega⟩
  have e : (y : Int) % 256 = ((y % 256 : Nat) : Int) := by omega
  rw [e, Int.toNat_natCast]
  have hall : ∀ a : Fin 256, bits .or .u8 (a.val : Int) 128 = ((128 + a.val % 128 : Nat) : Int) := by decide +kernel
  have := hall ⟨y % 256, by omega⟩
  dsimp only at this
  rw [this]
  omega
theorem u8_small {x : Int} (h : 0 ≤ x ∧ x < 256) : IntKind.u8.wrap x = x := by rw [IntKind.wrap_u8']; omega
end Gal
