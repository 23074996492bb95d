/- How values read, by their form: integers, matrices, structs, slices of anything. Over any program. -/
import Derived.Test.YtopckalgpeapnaaDoorRep3
set_option linter.unusedVariables false
set_option linter.unusedSimpArgs false
namespace Gal
open Go Go.RowKit

theorem heap_lt {w : World} {b : Nat} {o : Obj} (h : w.heap[b]? = some o) : b < w.heap.size := by
  rcases Nat.lt_or_ge b w.heap.size with h1 | h1
  · exact h1
  · rw [Array.getElem?_eq_none h1] at h; cases h
theorem lt_of_heap {w w' : World} {b : Nat} (h : b < w.heap.size) (he : w'.heap[b]? = w.heap[b]?) : b < w'.heap.size := by
  rw [Array.getElem?_eq_getElem h] at he
  exact heap_lt he

/-- a way to read a row of cells as an x. F: the blocks that it may lead to. -/
structure Form (α : Type) where
  size : Nat
  reads : World → (Nat → Prop) → List Value → α → Prop
  len : ∀ {w F cs x}, reads w F cs x → cs.length = size
  one : ∀ {w F cs x}, reads w F cs x → ∀ u ∈ cs, u.oneCell' = true
  wide : ∀ {w F G cs x}, (∀ b, F b → b < w.heap.size → G b) → reads w F cs x → reads w G cs x
  keep : ∀ {w w' F cs x}, (∀ b, F b → b < w.heap.size → w'.heap[b]? = w.heap[b]?) → reads w F cs x → reads w' F cs x

/-- any blocks -/
def anyB (b : Nat) : Prop := True
/-- blocks from base on -/
def newB (base : Nat) (b : Nat) : Prop := base ≤ b
/-- blocks ahead of base -/
def oldB (base : Nat) (b : Nat) : Prop := b < base

def Form.int : Form Int where
  size := 1
  reads := fun _ _ cs x => cs = [.int .i64 x]
  len := fun h => by rw [h]; rfl
  one := fun h u hu => by rw [h] at hu; simp at hu; rw [hu]; rfl
  wide := fun _ h => h
  keep := fun _ h => h

def Form.and {α β : Type} (f : Form α) (g : Form β) : Form (α × β) where
  size := f.size + g.size
  reads := fun w F cs x => ∃ c d, cs = c ++ d ∧ f.reads w F c x.1 ∧ g.reads w F d x.2
  len := fun ⟨c, d, e, h, k⟩ => by rw [e, List.length_append, f.len h, g.len k]
  one := fun ⟨c, d, e, h, k⟩ u hu => by
    rw [e] at hu
    rcases List.mem_append.1 hu with h1 | h1
    · exact f.one h u h1
    · exact g.one k u h1
  wide := fun hF ⟨c, d, e, h, k⟩ => ⟨c, d, e, f.wide hF h, g.wide hF k⟩
  keep := fun hF ⟨c, d, e, h, k⟩ => ⟨c, d, e, f.keep hF h, g.keep hF k⟩

def Form.as {α β : Type} (f : Form α) (mk : α → β) : Form β where
  size := f.size
  reads := fun w F cs y => ∃ x, f.reads w F cs x ∧ mk x = y
  len := fun ⟨x, h, _⟩ => f.len h
  one := fun ⟨x, h, _⟩ => f.one h
  wide := fun hF ⟨x, h, e⟩ => ⟨x, f.wide hF h, e⟩
  keep := fun hF ⟨x, h, e⟩ => ⟨x, f.keep hF h, e⟩

/-- the slice (a, n, cap) reads as xs -/
structure RowAt {α : Type} (f : Form α) (w : World) (F : Nat → Prop) (a : Option Addr) (n cap b off : Nat) (xs : List α) : Prop where
  len : xs.length = n
  le : n ≤ cap
  maxc : cap ≤ maxLen
  ptr : 0 < n → a = some ⟨b, off, none⟩
  lt : 0 < n → b < w.heap.size
  blk : 0 < n → F b
  cell : ∀ i x, xs[i]? = some x → ∃ cs, f.reads w F cs x ∧ ∀ j, j < f.size → w.cell? ⟨b, off + i * f.size + j, none⟩ = cs[j]?

theorem RowAt.max {α : Type} {f : Form α} {w : World} {F : Nat → Prop} {a : Option Addr} {n cap b off : Nat} {xs : List α} (h : RowAt f w F a n cap b off xs) : n ≤ maxLen := Nat.le_trans h.le h.maxc
theorem RowAt.wide {α : Type} {f : Form α} {w : World} {F G : Nat → Prop} {a : Option Addr} {n cap b off : Nat} {xs : List α} (hF : ∀ b, F b → b < w.heap.size → G b) (h : RowAt f w F a n cap b off xs) : RowAt f w G a n cap b off xs :=
  ⟨h.len, h.le, h.maxc, h.ptr, h.lt, fun hn => hF _ (h.blk hn) (h.lt hn), fun i x hx => by
    obtain ⟨cs, h1, h2⟩ := h.cell i x hx
    exact ⟨cs, f.wide hF h1, h2⟩⟩
theorem RowAt.kept {α : Type} {f : Form α} {w w' : World} {F : Nat → Prop} {a : Option Addr} {n cap b off : Nat} {xs : List α} (hF : ∀ b, F b → b < w.heap.size → w'.heap[b]? = w.heap[b]?) (h : RowAt f w F a n cap b off xs) : RowAt f w' F a n cap b off xs :=
  ⟨h.len, h.le, h.maxc, h.ptr, fun hn => lt_of_heap (h.lt hn) (hF _ (h.blk hn) (h.lt hn)), h.blk, fun i x hx => by
    have hi : i < xs.length := by
      rcases Nat.lt_or_ge i xs.length with h1 | h1
      · exact h1
      · rw [List.getElem?_eq_none h1] at hx; cases hx
    have hn : 0 < n := by have := h.len; omega
    obtain ⟨cs, h1, h2⟩ := h.cell i x hx
    exact ⟨cs, f.keep hF h1, fun j hj => (World.cell?_of_block (a := ⟨b, off + i * f.size + j, none⟩) (hF _ (h.blk hn) (h.lt hn))).trans (h2 j hj)⟩⟩
theorem RowAt.keep {α : Type} {f : Form α} {w w' : World} {F : Nat → Prop} {a : Option Addr} {n cap b off : Nat} {xs : List α} (h : RowAt f w F a n cap b off xs) (hb : Below w.heap.size w w') : RowAt f w' F a n cap b off xs :=
  h.kept fun k _ hk => hb.block k hk
theorem RowAt.alloc {α : Type} {f : Form α} {w : World} {F : Nat → Prop} {a : Option Addr} {n cap b off : Nat} {xs : List α} (h : RowAt f w F a n cap b off xs) (o : Obj) : RowAt f (w.alloc o) F a n cap b off xs :=
  h.keep ((Below.refl w.heap.size w).alloc (Nat.le_refl _) o)
theorem RowAt.drewN {α : Type} {f : Form α} {w : World} {F : Nat → Prop} {a : Option Addr} {n cap b off : Nat} {xs : List α} (h : RowAt f w F a n cap b off xs) (k : Nat) : RowAt f (w.drewN k) F a n cap b off xs :=
  h.keep ⟨rfl, rfl, rfl, Nat.le_refl _, fun _ _ => rfl⟩
theorem RowAt.nil {α : Type} (f : Form α) (w : World) (F : Nat → Prop) : RowAt f w F none 0 0 0 0 ([] : List α) :=
  ⟨rfl, Nat.le_refl _, Nat.zero_le _, fun h => absurd h (Nat.lt_irrefl _), fun h => absurd h (Nat.lt_irrefl _), fun h => absurd h (Nat.lt_irrefl _), fun i x hx => by cases hx⟩

def Form.slice {α : Type} (f : Form α) : Form (List α) where
  size := 1
  reads := fun w F cs xs => ∃ a n cap b off, cs = [.slice a n cap] ∧ RowAt f w F a n cap b off xs
  len := fun ⟨a, n, cap, b, off, e, h⟩ => by rw [e]; rfl
  one := fun ⟨a, n, cap, b, off, e, h⟩ u hu => by rw [e] at hu; simp at hu; rw [hu]; rfl
  wide := fun hF ⟨a, n, cap, b, off, e, h⟩ => ⟨a, n, cap, b, off, e, h.wide hF⟩
  keep := fun hF ⟨a, n, cap, b, off, e, h⟩ => ⟨a, n, cap, b, off, e, h.kept hF⟩

/-- a matrix -/
def Form.mat : Form Mat where
  size := 3
  reads := fun w F cs m => ∃ a n cap b off, cs = [.int .i64 m.rows, .int .i64 m.cols, .slice a n cap] ∧ (0 < n → F b) ∧ IntsAt w a n cap b off m.cells
  len := fun ⟨a, n, cap, b, off, e, _, h⟩ => by rw [e]; rfl
  one := fun ⟨a, n, cap, b, off, e, _, h⟩ u hu => by
    rw [e] at hu
    simp at hu
    rcases hu with rfl | rfl | rfl <;> rfl
  wide := fun hF ⟨a, n, cap, b, off, e, hb, h⟩ => ⟨a, n, cap, b, off, e, fun hn => hF _ (hb hn) (h.lt hn), h⟩
  keep := fun {w w' F cs x} hF ⟨a, n, cap, b, off, e, hb, h⟩ => ⟨a, n, cap, b, off, e, hb, ⟨h.len, h.le, h.maxc, h.ptr, fun hn => lt_of_heap (h.lt hn) (hF _ (hb hn) (h.lt hn)), fun i hi =>
    (World.cell?_of_block (a := ⟨b, off + i, none⟩) (hF _ (hb (by omega)) (h.lt (by omega)))).trans (h.cell i hi)⟩⟩

/-- a struct's value reads as x -/
def At {α : Type} (f : Form α) (w : World) (F : Nat → Prop) (v : Value) (x : α) : Prop := ∃ cs, v = .agg cs.toArray ∧ f.reads w F cs x
theorem At.keep {α : Type} {f : Form α} {w w' : World} {F : Nat → Prop} {v : Value} {x : α} (h : At f w F v x) (hb : Below w.heap.size w w') : At f w' F v x := by
  obtain ⟨cs, e, h⟩ := h
  exact ⟨cs, e, f.keep (fun k _ hk => hb.block k hk) h⟩
theorem At.wide {α : Type} {f : Form α} {w : World} {F G : Nat → Prop} {v : Value} {x : α} (hF : ∀ b, F b → b < w.heap.size → G b) (h : At f w F v x) : At f w G v x := by
  obtain ⟨cs, e, h⟩ := h
  exact ⟨cs, e, f.wide hF h⟩
theorem At.mat {w : World} {F : Nat → Prop} {v : Value} {m : Mat} (h : At Form.mat w F v m) : MatAt w v m := by
  obtain ⟨cs, rfl, a, n, cap, b, off, rfl, _, h⟩ := h
  exact ⟨a, n, cap, b, off, rfl, h⟩
theorem MatAt.at {w : World} {v : Value} {m : Mat} (h : MatAt w v m) : At Form.mat w anyB v m := by
  obtain ⟨a, n, cap, b, off, rfl, h⟩ := h
  exact ⟨_, rfl, a, n, cap, b, off, rfl, fun _ => trivial, h⟩
theorem MatNew.form {base : Nat} {w : World} {v : Value} {m : Mat} (h : MatNew base w v m) : At Form.mat w (newB base) v m := by
  obtain ⟨a, n, cap, b, off, rfl, hb, h⟩ := h
  exact ⟨_, rfl, a, n, cap, b, off, rfl, hb, h⟩
theorem At.matNew {base : Nat} {w : World} {v : Value} {m : Mat} (h : At Form.mat w (newB base) v m) : MatNew base w v m := by
  obtain ⟨cs, rfl, a, n, cap, b, off, rfl, hb, h⟩ := h
  exact ⟨a, n, cap, b, off, rfl, hb, h⟩
theorem reads_keep {α : Type} {f : Form α} {w w' : World} {F : Nat → Prop} {cs : List Value} {x : α} (h : f.reads w F cs x) (hb : Below w.heap.size w w') : f.reads w' F cs x := f.keep (fun k _ hk => hb.block k hk) h
theorem RowAt.mats {w : World} {F : Nat → Prop} {a : Option Addr} {n cap b off : Nat} {ms : List Mat} (h : RowAt Form.mat w F a n cap b off ms) : MatsAt w a n cap b off ms := by
  refine ⟨h.len, h.le, h.maxc, h.ptr, h.lt, fun i hi => ?_⟩
  have hx : ms[i]? = some (mx ms i) := by unfold mx; rw [List.getElem?_eq_getElem (by have := h.len; omega)]; rfl
  obtain ⟨cs, ⟨a', n', cap', b', off', rfl, hb', hi'⟩, hc⟩ := h.cell i _ hx
  exact ⟨a', n', cap', b', off', hc 0 (by decide), hc 1 (by decide), hc 2 (by decide), hi'.lt, hi'⟩
theorem RowAt.ints {w : World} {F : Nat → Prop} {a : Option Addr} {n cap b off : Nat} {xs : List Int} (h : RowAt Form.int w F a n cap b off xs) : IntsAt w a n cap b off xs := by
  refine ⟨h.len, h.le, h.maxc, h.ptr, h.lt, fun i hi => ?_⟩
  have hx : xs[i]? = some (ix xs i) := by unfold ix; rw [List.getElem?_eq_getElem (by have := h.len; omega)]; rfl
  obtain ⟨cs, rfl, hc⟩ := h.cell i _ hx
  simpa [Form.int] using hc 0 (by decide)
theorem IntsAt.row {w : World} {F : Nat → Prop} {a : Option Addr} {n cap b off : Nat} {xs : List Int} (h : IntsAt w a n cap b off xs) (hF : 0 < n → F b) : RowAt Form.int w F a n cap b off xs := by
  refine ⟨h.len, h.le, h.maxc, h.ptr, h.lt, hF, fun i x hx => ⟨_, rfl, fun j hj => ?_⟩⟩
  have hi : i < xs.length := by
    rcases Nat.lt_or_ge i xs.length with h1 | h1
    · exact h1
    · rw [List.getElem?_eq_none h1] at hx; cases hx
  have hc := h.cell i (by have := h.len; omega)
  obtain rfl : j = 0 := by simp [Form.int] at hj; exact hj
  unfold ix at hc
  rw [hx] at hc
  simpa [Form.int] using hc

/-- cells that read as elements, one behind the other -/
def Flat {α : Type} (f : Form α) (w : World) (F : Nat → Prop) : List Value → List α → Prop
  | cs, [] => cs = []
  | cs, x :: xs => ∃ c d, cs = c ++ d ∧ f.reads w F c x ∧ Flat f w F d xs
theorem Flat.len {α : Type} {f : Form α} {w : World} {F : Nat → Prop} {xs : List α} : ∀ {cs : List Value}, Flat f w F cs xs → cs.length = xs.length * f.size := by
  induction xs with
  | nil => intro cs h; rw [show cs = [] from h]; simp
  | cons x xs ih =>
    rintro cs ⟨c, d, rfl, h, k⟩
    rw [List.length_append, ih k, f.len h, List.length_cons, Nat.succ_mul, Nat.add_comm]
theorem Flat.one {α : Type} {f : Form α} {w : World} {F : Nat → Prop} {xs : List α} : ∀ {cs : List Value}, Flat f w F cs xs → ∀ u ∈ cs, u.oneCell' = true := by
  induction xs with
  | nil => intro cs h u hu; rw [show cs = [] from h] at hu; cases hu
  | cons x xs ih =>
    rintro cs ⟨c, d, rfl, h, k⟩ u hu
    rcases List.mem_append.1 hu with h1 | h1
    · exact f.one h u h1
    · exact ih k u h1
theorem Flat.kept {α : Type} {f : Form α} {w w' : World} {F : Nat → Prop} (hF : ∀ b, F b → b < w.heap.size → w'.heap[b]? = w.heap[b]?) {xs : List α} : ∀ {cs : List Value}, Flat f w F cs xs → Flat f w' F cs xs := by
  induction xs with
  | nil => intro cs h; exact h
  | cons x xs ih => rintro cs ⟨c, d, rfl, h, k⟩; exact ⟨c, d, rfl, f.keep hF h, ih k⟩
theorem Flat.wide {α : Type} {f : Form α} {w : World} {F G : Nat → Prop} (hF : ∀ b, F b → b < w.heap.size → G b) {xs : List α} : ∀ {cs : List Value}, Flat f w F cs xs → Flat f w G cs xs := by
  induction xs with
  | nil => intro cs h; exact h
  | cons x xs ih => rintro cs ⟨c, d, rfl, h, k⟩; exact ⟨c, d, rfl, f.wide hF h, ih k⟩
theorem Flat.append {α : Type} {f : Form α} {w : World} {F : Nat → Prop} {xs ys : List α} : ∀ {cs ds : List Value}, Flat f w F cs xs → Flat f w F ds ys → Flat f w F (cs ++ ds) (xs ++ ys) := by
  induction xs with
  | nil => intro cs ds h k; rw [show cs = [] from h]; exact k
  | cons x xs ih => rintro cs ds ⟨c, d, rfl, h, h'⟩ k; exact ⟨c, d ++ ds, by rw [List.append_assoc], h, ih h' k⟩
theorem Flat.single {α : Type} {f : Form α} {w : World} {F : Nat → Prop} {c : List Value} {x : α} (h : f.reads w F c x) : Flat f w F c [x] := ⟨c, [], by simp, h, rfl⟩
theorem Flat.snoc {α : Type} {f : Form α} {w : World} {F : Nat → Prop} {xs : List α} {cs c : List Value} {x : α} (h : Flat f w F cs xs) (k : f.reads w F c x) : Flat f w F (cs ++ c) (xs ++ [x]) := h.append (.single k)
theorem Flat.at {α : Type} {f : Form α} {w : World} {F : Nat → Prop} {xs : List α} : ∀ {cs : List Value}, Flat f w F cs xs → ∀ i x, xs[i]? = some x → ∃ c, f.reads w F c x ∧ ∀ j, j < f.size → cs[i * f.size + j]? = c[j]? := by
  induction xs with
  | nil => intro cs h i x hx; cases hx
  | cons y xs ih =>
    rintro cs ⟨c, d, rfl, h, k⟩ i x hx
    cases i with
    | zero =>
      simp at hx
      subst hx
      exact ⟨c, h, fun j hj => by rw [Nat.zero_mul, Nat.zero_add, List.getElem?_append_left (by rw [f.len h]; exact hj)]⟩
    | succ i =>
      simp at hx
      obtain ⟨c', h1, h2⟩ := ih k i x hx
      refine ⟨c', h1, fun j hj => ?_⟩
      rw [← h2 j hj, Nat.succ_mul, List.getElem?_append_right (by rw [f.len h]; omega), f.len h]
      congr 1
      omega
theorem Flat.ints {w : World} {F : Nat → Prop} {xs : List Int} : Flat Form.int w F (xs.map (Value.int .i64)) xs := by
  induction xs with
  | nil => rfl
  | cons x xs ih => exact ⟨[.int .i64 x], _, rfl, rfl, ih⟩

/-- the row v is the call's own, from block base on; its elements read as xs, leading to blocks of F other than the row's -/
structure OwnRow {α : Type} (f : Form α) (E : TypeId) (w : World) (base : Nat) (F : Nat → Prop) (v : Value) (xs : List α) : Prop where
  holds : ∃ cs, w.ownsRow base E f.size v xs.length cs ∧ Flat f w (fun b => F b ∧ v.ownBlock ≠ some b) cs xs
theorem OwnRow.nil {α : Type} (f : Form α) (E : TypeId) (w : World) (base : Nat) (F : Nat → Prop) : OwnRow f E w base F (.slice none 0 0) ([] : List α) := ⟨[], World.ownsRow_nil _ _ _ _, rfl⟩
theorem OwnRow.made {α : Type} (f : Form α) (E : TypeId) (w : World) (base b : Nat) (F : Nat → Prop) (cur : Array Value) (cap : Nat) (hn : b = w.heap.size) (hb : base ≤ w.heap.size) (hm : cap ≤ maxLen) (hs : cur.size = cap * f.size) :
    OwnRow f E (w.alloc (.cells cur E)) base F (.slice (some ⟨b, 0, none⟩) 0 cap) ([] : List α) := ⟨[], own_made w b base E f.size cur cap hn hb hm hs, rfl⟩
theorem OwnRow.slice {α : Type} {f : Form α} {E : TypeId} {w : World} {base : Nat} {F : Nat → Prop} {v : Value} {xs : List α} (h : OwnRow f E w base F v xs) : ∃ a cap, v = .slice a xs.length cap := by
  obtain ⟨cs, h, _⟩ := h.holds
  exact own_slice h
theorem OwnRow.base_le {α : Type} {f : Form α} {E : TypeId} {w : World} {base : Nat} {F : Nat → Prop} {v : Value} {xs : List α} (h : OwnRow f E w base F v xs) : ∀ k, v.ownBlock = some k → base ≤ k ∧ k < w.heap.size := by
  obtain ⟨cs, h, _⟩ := h.holds
  exact fun k hk => h.lt k hk
/-- what leaves the row's block and its elements' blocks as they were keeps it -/
theorem OwnRow.kept {α : Type} {f : Form α} {E : TypeId} {w w' : World} {base : Nat} {F : Nat → Prop} {v : Value} {xs : List α} (h : OwnRow f E w base F v xs)
    (hv : ∀ b, v.ownBlock = some b → w'.heap[b]? = w.heap[b]?) (hF : ∀ b, F b → v.ownBlock ≠ some b → b < w.heap.size → w'.heap[b]? = w.heap[b]?) : OwnRow f E w' base F v xs := by
  obtain ⟨cs, ⟨h1, h2⟩, k⟩ := h.holds
  refine ⟨cs, ⟨h1, ?_⟩, Flat.kept (fun b hb hl => hF b hb.1 hb.2 hl) k⟩
  rcases h2 with h2 | ⟨g, cap, cur, e, hb, hg, r⟩
  · exact Or.inl h2
  · exact Or.inr ⟨g, cap, cur, e, hb, by rw [hv g (by rw [e]; rfl)]; exact hg, r⟩
theorem OwnRow.keep {α : Type} {f : Form α} {E : TypeId} {w w' : World} {base : Nat} {F : Nat → Prop} {v : Value} {xs : List α} (h : OwnRow f E w base F v xs) (hb : Below w.heap.size w w') : OwnRow f E w' base F v xs :=
  h.kept (fun b hv => hb.block b (h.base_le b hv).2) (fun b _ _ hl => hb.block b hl)
theorem OwnRow.wide {α : Type} {f : Form α} {E : TypeId} {w : World} {base : Nat} {F G : Nat → Prop} {v : Value} {xs : List α} (hF : ∀ b, F b → b < w.heap.size → G b) (h : OwnRow f E w base F v xs) : OwnRow f E w base G v xs := by
  obtain ⟨cs, h1, k⟩ := h.holds
  exact ⟨cs, h1, Flat.wide (fun b hb hl => ⟨hF b hb.1 hl, hb.2⟩) k⟩
/-- a store into a block that is neither the row's nor any element's -/
theorem OwnRow.set {α : Type} {f : Form α} {E : TypeId} {w : World} {base : Nat} {F : Nat → Prop} {v : Value} {xs : List α} (h : OwnRow f E w base F v xs) {a : Addr} (hv : v.ownBlock ≠ some a.block) (hF : ¬ F a.block) (u : Value) : OwnRow f E (w.setCell a u) base F v xs :=
  h.kept (fun b hb => Below.heap_setCell w a u b (fun e => hv (by rw [hb, e]))) (fun b hb _ _ => Below.heap_setCell w a u b (fun e => hF (by rw [← e]; exact hb)))
theorem OwnRow.ne_box {α : Type} {f : Form α} {E : TypeId} {w : World} {base : Nat} {F : Nat → Prop} {v : Value} {xs : List α} (h : OwnRow f E w base F v xs) {b : Nat} {cs : List Value} {t : TypeId} (hb : Box w b cs t) (hne : E ≠ t) : v.ownBlock ≠ some b := by
  obtain ⟨ds, h1, k⟩ := h.holds
  exact own_ne h1 hb hne
/-- another own row grows: this one, of another block, is kept -/
theorem OwnRow.grown {α : Type} {f : Form α} {E : TypeId} {w w' : World} {base : Nat} {F : Nat → Prop} {v : Value} {xs : List α} {row : Option Nat} (h : OwnRow f E w base F v xs) (hg : w.grownBy w' row) (hv : ∀ b, v.ownBlock = some b → some b ≠ row) (hF : ∀ b, F b → v.ownBlock ≠ some b → some b ≠ row) : OwnRow f E w' base F v xs :=
  h.kept (fun b hb => hg.block b (h.base_le b hb).2 (hv b hb)) (fun b hb hb' hl => hg.block b hl (hF b hb hb'))
/-- read as a plain slice -/
theorem OwnRow.row {α : Type} {f : Form α} {E : TypeId} {w : World} {base : Nat} {F G : Nat → Prop} {v : Value} {xs : List α} (h : OwnRow f E w base F v xs) (hF : ∀ b, F b → b < w.heap.size → G b) (hG : ∀ b, base ≤ b → G b) :
    ∃ a cap b, v = .slice a xs.length cap ∧ (0 < xs.length → base ≤ b) ∧ RowAt f w G a xs.length cap b 0 xs := by
  obtain ⟨cs, ⟨hl, h⟩, k⟩ := h.holds
  rcases h with ⟨rfl, h0⟩ | ⟨g, cap, cur, rfl, hb, hg, hn, hm, hs, ht⟩
  · obtain rfl := List.eq_nil_of_length_eq_zero h0
    exact ⟨none, 0, 0, rfl, fun h => absurd h (Nat.lt_irrefl _), RowAt.nil f w G⟩
  · refine ⟨_, cap, g, rfl, fun _ => hb, rfl, hn, hm, fun _ => rfl, fun _ => heap_lt hg, fun _ => hG _ hb, fun i x hx => ?_⟩
    obtain ⟨c, h1, h2⟩ := k.at i x hx
    have hi : i < xs.length := by
      rcases Nat.lt_or_ge i xs.length with h1 | h1
      · exact h1
      · rw [List.getElem?_eq_none h1] at hx; cases hx
    refine ⟨c, f.wide (fun b hb hl => hF b hb.1 hl) h1, fun j hj => ?_⟩
    have hij : i * f.size + j < xs.length * f.size := by
      have := Nat.mul_le_mul_right f.size (show i + 1 ≤ xs.length by omega)
      rw [Nat.succ_mul] at this
      omega
    rw [Nat.zero_add, cell_of_row w g _ cur E _ hg, ← h2 j hj, ← ht, List.getElem?_take_of_lt hij]
    simp

section
variable {P : Program} {w : World}
/-- one element is put behind a row of the call's own -/
theorem wp_push {α : Type} {o : Oper} {a : Act} {K : Act → World → Prop} {Q : Exit → Act → World → Prop} (s x : Operand) (t : TypeId)
    (ho : o.op = .call { callee := .builtin .append, args := #[s, x], argTypes := #[t, t] })
    (f : Form α) (base : Nat) (F : Nat → Prop) (e : TypeId) (i : TypeInfo) (z : Value) (bytes : Nat) (ht : P.underlying t = some (.slice e)) (hi : P.info? e = some i) (hz : i.zero = some z)
    (hsize : i.size = f.size) (hby : i.bytes = bytes) (hzs : z.cells.size = f.size) (hsz : 0 < f.size)
    (v : Value) (xs : List α) (hs : a.eval s = v) (hown : OwnRow f e w base F v xs)
    (b c : Nat) (cs : List Value) (te : TypeId) (y : α) (hx : a.eval x = .slice (some ⟨b, 0, none⟩) 1 c) (hbox : Box w b cs te) (hr : f.reads w (fun b => F b ∧ v.ownBlock ≠ some b) cs y)
    (hbytes : (xs.length + 1) * bytes ≤ 140737488355328) (hlen : xs.length + 1 ≤ maxLen) (hbase : base ≤ w.heap.size) (H : Nat) (hH : w.heap.size = H)
    (h : ∀ g cap w', OwnRow f e w' base F (.slice (some ⟨g, 0, none⟩) (xs.length + 1) cap) (xs ++ [y]) → w.grownBy w' v.ownBlock → (v.ownBlock = some g ∨ g = H) → g < w'.heap.size → K (a.put o.dst (.slice (some ⟨g, 0, none⟩) (xs.length + 1) cap)) w') : o.wp P a w K Q := by
  obtain ⟨ds, hown1, hfl⟩ := hown.holds
  refine wp_append_lies w s x t ho base e i z f.size bytes ht hi hz hsize hby hzs hsz v xs.length ds hs hown1 ⟨b, 0, none⟩ 1 c cs hx (by rw [f.len hr, Nat.one_mul]) (fun j u hu => World.news_of_block hbox j u (by simpa using hu)) (f.one hr) (by decide) hlen hbytes hbase H hH fun g cap w' h2 h3 h4 h5 => h g cap w' ⟨_, by simpa using h2, ?_⟩ h3 h4 h5
  have hw : ∀ b', (F b' ∧ v.ownBlock ≠ some b') → b' < w.heap.size → (F b' ∧ v.ownBlock ≠ some b') ∧ b' ≠ g := fun b' hb' hl => ⟨hb', fun e1 => by
    subst e1
    rcases h4 with h4 | h4
    · exact hb'.2 h4
    · omega⟩
  have hk : ∀ b', (F b' ∧ v.ownBlock ≠ some b') ∧ b' ≠ g → b' < w.heap.size → w'.heap[b']? = w.heap[b']? := fun b' hb' hl => h3.block b' hl (fun e1 => hb'.1.2 e1.symm)
  have hq : ∀ W : World, ∀ b', (F b' ∧ v.ownBlock ≠ some b') ∧ b' ≠ g → b' < W.heap.size → F b' ∧ (Value.slice (some ⟨g, 0, none⟩) (xs.length + 1) cap).ownBlock ≠ some b' := fun W b' hb' _ => ⟨hb'.1.1, fun e1 => hb'.2 (by simp [Value.ownBlock] at e1; exact e1.symm)⟩
  exact (((hfl.wide hw).kept hk).wide (hq _)).snoc (f.wide (hq _) (f.keep hk (f.wide hw hr)))
theorem wpList_push {α : Type} {ops : Array Oper} {rest : List Oper} {o : Oper} {a : Act} {Q : Exit → Act → World → Prop} (hgd : o.guard = none) (s x : Operand) (t : TypeId)
    (ho : o.op = .call { callee := .builtin .append, args := #[s, x], argTypes := #[t, t] })
    (f : Form α) (base : Nat) (F : Nat → Prop) (e : TypeId) (i : TypeInfo) (z : Value) (bytes : Nat) (ht : P.underlying t = some (.slice e)) (hi : P.info? e = some i) (hz : i.zero = some z)
    (hsize : i.size = f.size) (hby : i.bytes = bytes) (hzs : z.cells.size = f.size) (hsz : 0 < f.size)
    (v : Value) (xs : List α) (hs : a.eval s = v) (hown : OwnRow f e w base F v xs)
    (b c : Nat) (cs : List Value) (te : TypeId) (y : α) (hx : a.eval x = .slice (some ⟨b, 0, none⟩) 1 c) (hbox : Box w b cs te) (hr : f.reads w (fun b => F b ∧ v.ownBlock ≠ some b) cs y)
    (hbytes : (xs.length + 1) * bytes ≤ 140737488355328) (hlen : xs.length + 1 ≤ maxLen) (hbase : base ≤ w.heap.size) (H : Nat) (hH : w.heap.size = H)
    (h : ∀ g cap w', OwnRow f e w' base F (.slice (some ⟨g, 0, none⟩) (xs.length + 1) cap) (xs ++ [y]) → w.grownBy w' v.ownBlock → (v.ownBlock = some g ∨ g = H) → g < w'.heap.size → wpList P ops Q rest (a.put o.dst (.slice (some ⟨g, 0, none⟩) (xs.length + 1) cap)) w') : wpList P ops Q (o :: rest) a w :=
  wpList_plain hgd fun _ hK => wp_push s x t ho f base F e i z bytes ht hi hz hsize hby hzs hsz v xs hs hown b c cs te y hx hbox hr hbytes hlen hbase H hH fun g cap w' h2 h3 h4 h5 => hK _ _ (h g cap w' h2 h3 h4 h5)
end
end Gal
