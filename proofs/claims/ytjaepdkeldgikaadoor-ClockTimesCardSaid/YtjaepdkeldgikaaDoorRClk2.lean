/- The reference's TimesOf: its rows. -/
import Derived.Test.YtjaepdkeldgikaaDoorPClk4
import Derived.Test.YtjaepdkeldgikaaDoorRClk1
import Derived.Test.YtjaepdkeldgikaaDoorPlan5
import Derived.Test.YtjaepdkeldgikaaDoorPPlan5
set_option linter.unusedVariables false
set_option linter.unusedSimpArgs false
set_option linter.unusedSectionVars false
namespace Gal
open Go Go.RowKit
theorem made_pairs (n : Nat) : madeCells (Value.agg #[.int .i64 0, .int .i64 0]).cells n = (List.replicate n (Value.int .i64 0)).toArray := by
  show madeCells #[Value.int .i64 0, .int .i64 0] n = _
  apply Array.ext
  · simp [size_madeCells]
  · intro i h1 h2
    simp only [madeCells, Array.getElem_map, Array.getElem_range]
    rcases Nat.mod_two_eq_zero_or_one i with h | h <;> simp [h]
theorem row_zeros {w : World} {F : Nat → Prop} {L b : Nat} {T : TypeId} (hL : L ≤ maxLen) (hF : F b) (hb : Box w b (List.replicate (L * 2) (Value.int .i64 0)) T) : RowAt Form.act w F (some ⟨b, 0, none⟩) L L b 0 (List.replicate L ((0 : Int), (0 : Int))) where
  len := by simp
  le := Nat.le_refl _
  maxc := hL
  ptr := fun _ => rfl
  lt := fun _ => hb.lt
  blk := fun _ => hF
  cell := fun i x hx => by
    have hi : i < L := by
      rcases Nat.lt_or_ge i L with h1 | h1
      · exact h1
      · rw [List.getElem?_eq_none (by simpa using h1)] at hx; cases hx
    have hx0 : x = (0, 0) := by simp [hi] at hx; exact hx.symm
    subst hx0
    refine ⟨[.int .i64 0, .int .i64 0], ⟨[.int .i64 0], [.int .i64 0], rfl, rfl, rfl⟩, fun j hj => ?_⟩
    have hj2 : j < 2 := hj
    rw [show Form.act.size = 2 from rfl, Nat.zero_add, hb.cell]
    rw [List.getElem?_replicate, if_pos (by omega)]
    rcases (by omega : j = 0 ∨ j = 1) with rfl | rfl <;> rfl
theorem pair_cell {w : World} {g k : Nat} {u v c d : Value} (h0 : w.cell? ⟨g, k * 2, none⟩ = some c) (h1 : w.cell? ⟨g, k * 2 + 1, none⟩ = some d) :
    ((w.setCell ⟨g, k * 2, none⟩ u).setCell ⟨g, k * 2 + 1, none⟩ v).cell? ⟨g, k * 2, none⟩ = some u ∧ ((w.setCell ⟨g, k * 2, none⟩ u).setCell ⟨g, k * 2 + 1, none⟩ v).cell? ⟨g, k * 2 + 1, none⟩ = some v ∧
      ∀ b i, (b ≠ g ∨ (i ≠ k * 2 ∧ i ≠ k * 2 + 1)) → ((w.setCell ⟨g, k * 2, none⟩ u).setCell ⟨g, k * 2 + 1, none⟩ v).cell? ⟨b, i, none⟩ = w.cell? ⟨b, i, none⟩ := by
  have e1 : (w.setCell ⟨g, k * 2, none⟩ u).cell? ⟨g, k * 2 + 1, none⟩ = some d := by
    rw [World.cell?_setCell_other _ _ _ _ (by simp), h1]
  refine ⟨?_, World.cell?_setCell_same _ _ _ e1, fun b i hbi => ?_⟩
  · rw [World.cell?_setCell_other _ _ _ _ (by simp)]
    exact World.cell?_setCell_same _ _ _ h0
  · rw [World.cell?_setCell_other _ _ _ _ (by simp only [ne_eq, Addr.mk.injEq]; omega), World.cell?_setCell_other _ _ _ _ (by simp only [ne_eq, Addr.mk.injEq]; omega)]
theorem pair_put {w : World} {F : Nat → Prop} {g n cap : Nat} {l : List ActD} (h : RowAt Form.act w F (some ⟨g, 0, none⟩) n cap g 0 l) {k : Nat} (hk : k < n) (z : ActD) :
    RowAt Form.act ((w.setCell ⟨g, k * 2, none⟩ (.int .i64 z.1)).setCell ⟨g, k * 2 + 1, none⟩ (.int .i64 z.2)) F (some ⟨g, 0, none⟩) n cap g 0 (l.set k z) := by
  obtain ⟨c0, c1⟩ := act_cells h hk
  rw [Nat.zero_add] at c0 c1
  obtain ⟨q0, q1, q2⟩ := pair_cell (u := .int .i64 z.1) (v := .int .i64 z.2) c0 c1
  have hl := h.len
  refine ⟨by rw [List.length_set]; exact hl, h.le, h.maxc, fun _ => rfl, fun hn => by simpa [World.setCell] using h.lt hn, h.blk, fun i x hx => ?_⟩
  have hi : i < n := by
    rcases Nat.lt_or_ge i n with h1 | h1
    · exact h1
    · rw [List.getElem?_eq_none (by rw [List.length_set, hl]; exact h1)] at hx; cases hx
  have hxi : x = ax (l.set k z) i := by
    have := ax_get (l := l.set k z) (i := i) (by rw [List.length_set, hl]; exact hi)
    rw [hx] at this
    simpa using this
  refine ⟨[.int .i64 x.1, .int .i64 x.2], ⟨[.int .i64 x.1], [.int .i64 x.2], rfl, rfl, rfl⟩, fun j hj => ?_⟩
  rw [ax_set (by rw [hl]; exact hk)] at hxi
  obtain ⟨d0, d1⟩ := act_cells h hi
  rw [Nat.zero_add] at d0 d1
  have hj2 : j < 2 := hj
  rw [show Form.act.size = 2 from rfl, Nat.zero_add]
  by_cases e : i = k
  · subst e
    rw [if_pos rfl] at hxi
    subst hxi
    rcases (by omega : j = 0 ∨ j = 1) with rfl | rfl
    · exact q0.trans rfl
    · exact q1.trans rfl
  · rw [if_neg e] at hxi
    subst hxi
    rw [q2 g (i * 2 + j) (Or.inr ⟨by omega, by omega⟩)]
    rcases (by omega : j = 0 ∨ j = 1) with rfl | rfl
    · exact d0.trans rfl
    · exact d1.trans rfl
/-- rows of so many spans, each in a block of its own; block b holds their headers -/
structure OutB (w : World) (base b n L : Nat) (gs : Nat → Nat) (W : Nat → List SpanD) : Prop where
  hd : ∀ s, s < n → w.cell? ⟨b, s, none⟩ = some (.slice (some ⟨gs s, 0, none⟩) L L)
  row : ∀ s, s < n → RowAt Form.act w (fun k => k = gs s) (some ⟨gs s, 0, none⟩) L L (gs s) 0 (W s)
  fro : ∀ s, s < n → ∃ cur T, w.heap[gs s]? = some (.cells cur T (0, 0))
  inj : ∀ s t, s < n → t < n → s ≠ t → gs s ≠ gs t
  ne : ∀ s, s < n → gs s ≠ b
  low : base ≤ b ∧ ∀ s, s < n → base ≤ gs s
  lt : b < w.heap.size
theorem OutB.gs_lt {w : World} {base b n L : Nat} {gs : Nat → Nat} {W : Nat → List SpanD} (h : OutB w base b n L gs W) {s : Nat} (hs : s < n) : gs s < w.heap.size := by
  obtain ⟨cur, T, hc⟩ := h.fro s hs
  exact heap_lt hc
theorem OutB.keep {w w' : World} {base b n L : Nat} {gs : Nat → Nat} {W : Nat → List SpanD} (h : OutB w base b n L gs W) (hb : Below w.heap.size w w') : OutB w' base b n L gs W :=
  ⟨fun s hs => (hb.cell h.lt).trans (h.hd s hs), fun s hs => (h.row s hs).keep hb, fun s hs => by
    obtain ⟨cur, T, hc⟩ := h.fro s hs
    exact ⟨cur, T, (hb.block _ (heap_lt hc)).trans hc⟩, h.inj, h.ne, h.low, Nat.lt_of_lt_of_le h.lt hb.size⟩
theorem OutB.drewN {w : World} {base b n L : Nat} {gs : Nat → Nat} {W : Nat → List SpanD} (h : OutB w base b n L gs W) (q : Nat) : OutB (w.drewN q) base b n L gs W := h.keep ⟨rfl, rfl, rfl, Nat.le_refl _, fun _ _ => rfl⟩
theorem OutB.thaw {w : World} {base b n L : Nat} {gs : Nat → Nat} {W : Nat → List SpanD} (h : OutB w base b n L gs W) {s : Nat} (hs : s < n) (i : Nat) : w.frozen? ⟨gs s, i, none⟩ = false := by
  obtain ⟨cur, T, hc⟩ := h.fro s hs
  simp [World.frozen?, hc]
theorem OutB.cells {w : World} {base b n L : Nat} {gs : Nat → Nat} {W : Nat → List SpanD} (h : OutB w base b n L gs W) {s i : Nat} (hs : s < n) (hi : i < L) : w.cell? ⟨gs s, i * 2, none⟩ = some (.int .i64 (ax (W s) i).1) ∧ w.cell? ⟨gs s, i * 2 + 1, none⟩ = some (.int .i64 (ax (W s) i).2) := by
  have h1 := act_cells (h.row s hs) hi
  rw [Nat.zero_add] at h1
  exact h1
theorem heap_set2 (w : World) (g i j : Nat) (u v : Value) (k : Nat) (hk : k ≠ g) : ((w.setCell ⟨g, i, none⟩ u).setCell ⟨g, j, none⟩ v).heap[k]? = w.heap[k]? := by
  rw [Below.heap_setCell _ _ _ k hk, Below.heap_setCell _ _ _ k hk]
theorem fro_set {w : World} {g : Nat} {a : Addr} {v : Value} (h : ∃ cur T, w.heap[g]? = some (.cells cur T (0, 0))) : ∃ cur T, (w.setCell a v).heap[g]? = some (.cells cur T (0, 0)) := by
  obtain ⟨cur, T, hc⟩ := h
  by_cases e : g = a.block
  · subst e
    exact ⟨if a.spot.isSome then cur else cur.setIfInBounds a.off v, T, by simp [World.setCell, Array.getElem?_modify, hc]⟩
  · exact ⟨cur, T, (Below.heap_setCell w a v g e).trans hc⟩
theorem OutB.put {w : World} {base b n L : Nat} {gs : Nat → Nat} {W : Nat → List SpanD} (h : OutB w base b n L gs W) {s i : Nat} (hs : s < n) (hi : i < L) (x : SpanD) :
    OutB ((w.setCell ⟨gs s, i * 2, none⟩ (.int .i64 x.1)).setCell ⟨gs s, i * 2 + 1, none⟩ (.int .i64 x.2)) base b n L gs (setW W s i x) := by
  have hh := heap_set2 w (gs s) (i * 2) (i * 2 + 1) (.int .i64 x.1) (.int .i64 x.2)
  refine ⟨fun r hr => ?_, fun r hr => ?_, fun r hr => fro_set (fro_set (h.fro r hr)), h.inj, h.ne, h.low, by simpa [World.setCell] using h.lt⟩
  · rw [World.cell?_setCell_other _ _ _ _ (by simp only [ne_eq, Addr.mk.injEq, not_and]; exact fun e => absurd e (h.ne s hs)), World.cell?_setCell_other _ _ _ _ (by simp only [ne_eq, Addr.mk.injEq, not_and]; exact fun e => absurd e (h.ne s hs))]
    exact h.hd r hr
  · unfold setW
    by_cases e : r = s
    · subst e
      rw [if_pos rfl]
      exact pair_put (h.row r hr) hi x
    · rw [if_neg e]
      exact (h.row r hr).kept fun k hk _ => by
        subst hk
        exact hh _ (h.inj r s hr hs e)
theorem OutB.plan {w : World} {base b n L cap : Nat} {gs : Nat → Nat} {W : Nat → List SpanD} (h : OutB w base b n L gs W) (hc : n ≤ cap) (hm : cap ≤ maxLen) : RowAt Form.plan w anyB (some ⟨b, 0, none⟩) n cap b 0 (rowsOf n W) where
  len := by simp [rowsOf]
  le := hc
  maxc := hm
  ptr := fun _ => rfl
  lt := fun _ => h.lt
  blk := fun _ => trivial
  cell := fun i x hx => by
    have hi : i < n := by
      rcases Nat.lt_or_ge i n with h1 | h1
      · exact h1
      · rw [List.getElem?_eq_none (by simpa [rowsOf] using h1)] at hx; cases hx
    have hxi : x = W i := by simp [rowsOf, hi] at hx; exact hx.symm
    subst hxi
    refine ⟨[.slice (some ⟨gs i, 0, none⟩) L L], ⟨some ⟨gs i, 0, none⟩, L, L, gs i, 0, rfl, (h.row i hi).wide (fun _ _ _ => trivial)⟩, fun j hj => ?_⟩
    · obtain rfl : j = 0 := by have : Form.plan.size = 1 := rfl; omega
      rw [show Form.plan.size = 1 from rfl, Nat.zero_add, Nat.mul_one, Nat.add_zero, h.hd i hi]
      rfl
theorem rising_at {hs : List RowD} (h : Rising hs) {i j : Nat} {x y : RowD} (hx : hs[i]? = some x) (hy : hs[j]? = some y) (hij : i < j) : x.1.1 < y.1.1 := by
  unfold Rising at h
  have hi : i < hs.length := by
    rcases Nat.lt_or_ge i hs.length with h1 | h1
    · exact h1
    · rw [List.getElem?_eq_none h1] at hx; cases hx
  have hj : j < hs.length := by
    rcases Nat.lt_or_ge j hs.length with h1 | h1
    · exact h1
    · rw [List.getElem?_eq_none h1] at hy; cases hy
  have := List.pairwise_iff_getElem.1 h i j (by simpa using hi) (by simpa using hj) hij
  rw [List.getElem?_eq_getElem hi] at hx
  rw [List.getElem?_eq_getElem hj] at hy
  simp only [Option.some.injEq] at hx hy
  simp only [List.getElem_map, hx, hy] at this
  exact this
theorem outB_of {w : World} {base b n cap L : Nat} {hs : List RowD} (h : RowAt Form.hdr w anyB (some ⟨b, 0, none⟩) n cap b 0 hs) (hr : Rising hs) (hy : ∀ y ∈ hs, y.2 = List.replicate L ((0 : Int), (0 : Int)) ∧ y.1.2 = L) (hb : ∀ y ∈ hs, base ≤ y.1.1 ∧ y.1.1 ≠ b) (hbb : base ≤ b) (hn : 0 < n) (hL : 0 < L) :
    ∃ gs, OutB w base b n L gs fun _ => List.replicate L (0, 0) := by
  have hat : ∀ s, s < n → ∃ g, hs[s]? = some ((g, L), List.replicate L (0, 0)) := fun s hs' => by
    have h1 : s < hs.length := by rw [h.len]; exact hs'
    have h2 := hy hs[s] (List.getElem_mem h1)
    obtain ⟨⟨⟨g, c⟩, l⟩, he⟩ : ∃ y, hs[s] = y := ⟨_, rfl⟩
    rw [he] at h2
    dsimp only at h2
    obtain ⟨rfl, rfl⟩ := h2
    exact ⟨g, by rw [List.getElem?_eq_getElem h1, he]⟩
  obtain ⟨gs, hgs⟩ : ∃ gs : Nat → Nat, ∀ s, s < n → hs[s]? = some ((gs s, L), List.replicate L (0, 0)) := ⟨fun s => if h : s < n then Classical.choose (hat s h) else 0, fun s h => by
    dsimp only
    rw [dif_pos h]
    exact Classical.choose_spec (hat s h)⟩
  have hcell := fun s hs' => h.cell s _ (hgs s hs')
  refine ⟨gs, fun s hs' => ?_, fun s hs' => ?_, fun s hs' => ?_, fun s t hs' ht e he => ?_, fun s hs' => (hb _ (List.mem_of_getElem? (hgs s hs'))).2, ⟨hbb, fun s hs' => (hb _ (List.mem_of_getElem? (hgs s hs'))).1⟩, h.lt hn⟩
  · obtain ⟨cs, ⟨rfl, _⟩, h2⟩ := hcell s hs'
    have h3 := h2 0 (by decide)
    rw [show Form.hdr.size = 1 from rfl, Nat.mul_one, Nat.add_zero, Nat.zero_add] at h3
    rw [h3]
    simp
  · obtain ⟨cs, ⟨_, h1, _⟩, _⟩ := hcell s hs'
    dsimp only at h1
    rw [List.length_replicate] at h1
    exact ⟨h1.len, h1.le, h1.maxc, h1.ptr, h1.lt, fun _ => rfl, fun i x hx => by
      obtain ⟨cs, k1, k2⟩ := h1.cell i x hx
      exact ⟨cs, by rw [act_reads k1]; exact act_reads' _ _, k2⟩⟩
  · obtain ⟨cs, ⟨_, _, h2⟩, _⟩ := hcell s hs'
    exact h2 (by rw [List.length_replicate]; exact hL)
  · rcases Nat.lt_trichotomy s t with h1 | h1 | h1
    · have := rising_at hr (hgs s hs') (hgs t ht) h1
      dsimp only at this
      omega
    · exact e h1
    · have := rising_at hr (hgs t ht) (hgs s hs') h1
      dsimp only at this
      omega
end Gal
