/- Texts joined: Part, Zero1. -/
import Derived.Test.YtchngeagnlngaaaJ06
import Derived.Test.YtchngeagnlngaaaJ03
import Derived.Test.YtchngeagnlngaaaJ18
import Derived.Test.YtchngeagnlngaaaJ12
import Derived.Deep.AppendLies
import Derived.Deep.DeepCutAuto
import Derived.Deep.RegionHeld3
import Derived.IntWalk
section
set_option linter.unusedVariables false
set_option linter.unusedSimpArgs false
namespace Gal
open Go Go.RowKit
def PartOf {α : Type} (f : Form α) (w : World) (F : Nat → Prop) (cs : List Value) (xs : List α) : Prop :=
 ∀ i x, xs[i]? = some x → ∃ c, f.reads w F c x ∧ ∀ j, j < f.size → cs[i * f.size + j]? = c[j]?
section
variable {α : Type} {f : Form α} {w w' : World} {F G : Nat → Prop} {cs : List Value} {xs : List α}
theorem PartOf.nil : PartOf f w F cs [] := fun i x h => by simp at h
theorem PartOf.kept (h : PartOf f w F cs xs) (hF : ∀ b, F b → b < w.heap.size → w'.heap[b]? = w.heap[b]?) : PartOf f w' F cs xs := fun i x hx => by
 obtain ⟨c, hr, hc⟩ := h i x hx
 exact ⟨c, f.keep hF hr, hc⟩
theorem PartOf.keep (h : PartOf f w F cs xs) (hb : Below w.heap.size w w') : PartOf f w' F cs xs := h.kept fun b _ hl => hb.block b hl
theorem PartOf.far {S : Nat → Prop} (h : PartOf f w F cs xs) (hf : Far S w w') (hs : ∀ b, F b → ¬ S b) : PartOf f w' F cs xs := h.kept fun b hb hl => hf.block b hl (hs b hb)
theorem PartOf.set (h : PartOf f w F cs xs) {i : Nat} (hi : xs.length * f.size ≤ i) (v : Value) : PartOf f w F (cs.set i v) xs := fun t x hx => by
 obtain ⟨c, hr, hc⟩ := h t x hx
 refine ⟨c, hr, fun j hj => ?_⟩
 have ht : t < xs.length := (List.getElem?_eq_some_iff.1 hx).1
 have hm : (t + 1) * f.size ≤ xs.length * f.size := Nat.mul_le_mul_right _ ht
 rw [Nat.add_mul, Nat.one_mul] at hm
 rw [List.getElem?_set_ne (by omega)]
 exact hc j hj
theorem PartOf.snoc (h : PartOf f w F cs xs) {c : List Value} {x : α} (hr : f.reads w F c x) (hc : ∀ j, j < f.size → cs[xs.length * f.size + j]? = c[j]?) : PartOf f w F cs (xs ++ [x]) := fun t y hy => by
 rcases Nat.lt_or_ge t xs.length with ht | ht
 ·rw [List.getElem?_append_left ht] at hy
  exact h t y hy
 ·rw [List.getElem?_append_right ht] at hy
  have e : t - xs.length = 0 := by
   rcases Nat.eq_zero_or_pos (t - xs.length) with q | q
   ·exact q
   ·rw [List.getElem?_eq_none (by simp; omega)] at hy; cases hy
  rw [e] at hy
  simp at hy
  subst hy
  obtain rfl : t = xs.length := by omega
  exact ⟨c, hr, hc⟩
theorem PartOf.row (h : PartOf f w F cs xs) {b n : Nat} {E : TypeId} (hb : Box w b cs E) (hn : xs.length = n) (hm : n ≤ maxLen) (hG : 0 < n → G b) (hF : ∀ b, F b → b < w.heap.size → G b) : RowAt f w G (some ⟨b, 0, none⟩) n n b 0 xs := by
 refine ⟨hn, Nat.le_refl _, hm, fun _ => rfl, fun _ => hb.lt, hG, fun i x hx => ?_⟩
 obtain ⟨c, hr, hc⟩ := h i x hx
 exact ⟨c, f.wide hF hr, fun j hj => by rw [Nat.zero_add, hb.cell]; exact hc j hj⟩
end
theorem sets6 {cs : List Value} {a : Nat} (h : a + 6 ≤ cs.length) (v0 v1 v2 v3 v4 v5 : Value) :
  ∀ j, j < 6 → ((((((cs.set a v0).set (a + 1) v1).set (a + 2) v2).set (a + 3) v3).set (a + 4) v4).set (a + 5) v5)[a + j]? = [v0, v1, v2, v3, v4, v5][j]? := by
 intro j hj
 rcases (by omega : j = 0 ∨ j = 1 ∨ j = 2 ∨ j = 3 ∨ j = 4 ∨ j = 5) with rfl | rfl | rfl | rfl | rfl | rfl <;> simp [List.getElem?_set] <;> omega
theorem sets7 {cs : List Value} {a : Nat} (h : a + 7 ≤ cs.length) (v0 v1 v2 v3 v4 v5 v6 : Value) :
  ∀ j, j < 7 → (((((((cs.set a v0).set (a + 1) v1).set (a + 2) v2).set (a + 3) v3).set (a + 4) v4).set (a + 5) v5).set (a + 6) v6)[a + j]? = [v0, v1, v2, v3, v4, v5, v6][j]? := by
 intro j hj
 rcases (by omega : j = 0 ∨ j = 1 ∨ j = 2 ∨ j = 3 ∨ j = 4 ∨ j = 5 ∨ j = 6) with rfl | rfl | rfl | rfl | rfl | rfl | rfl <;> simp [List.getElem?_set] <;> omega
theorem Box.has {w : World} {b : Nat} {cs : List Value} {t : TypeId} (h : Box w b cs t) {i : Nat} (hi : i < cs.length) : ∃ v, w.cell? ⟨b, i, none⟩ = some v := ⟨cs[i], by rw [h.cell, List.getElem?_eq_getElem hi]⟩
theorem step_push {P : Program} {w : World} {α : Type} {ops : Array Oper} {o : Oper} {a : Act} {K : Act → World → Prop} {Q : Exit → Act → World → Prop} {E : Prop} (hgd : o.guard = none) (s x : Operand) (t : TypeId)
  (ho : o.op = .call { callee := .builtin .append, args := #[s, x], argTypes := #[t, t] })
  (f : Form α) (base : Nat) (F : Nat → Prop) (e : TypeId) (i : TypeInfo) (z : Value) (bytes : Nat) (ht : P.underlying t = some (.slice e)) (hi : P.info? e = some i) (hz : i.zero = some z)
  (hsize : i.size = f.size) (hby : i.bytes = bytes) (hzs : z.cells.size = f.size) (hsz : 0 < f.size)
  (v : Value) (xs : List α) (hs : a.eval s = v) (hown : OwnRow f e w base F v xs)
  (b c : Nat) (cs : List Value) (te : TypeId) (y : α) (hx : a.eval x = .slice (some ⟨b, 0, none⟩) 1 c) (hbox : Box w b cs te) (hr : f.reads w (fun b => F b ∧ v.ownBlock ≠ some b) cs y)
  (hbytes : (xs.length + 1) * bytes ≤ 140737488355328) (hlen : xs.length + 1 ≤ maxLen) (hbase : base ≤ w.heap.size) (H : Nat) (hH : w.heap.size = H)
  (h : ∀ g cap w', OwnRow f e w' base F (.slice (some ⟨g, 0, none⟩) (xs.length + 1) cap) (xs ++ [y]) → w.grownBy w' v.ownBlock → (v.ownBlock = some g ∨ g = H) → g < w'.heap.size → K (a.put o.dst (.slice (some ⟨g, 0, none⟩) (xs.length + 1) cap)) w') :
  if Region.wanted o (yielded ops a.tmps) = true then Oper.wp P o a w K Q else E := by
 have hw : Region.wanted o (yielded ops a.tmps) = true := by simp [Region.wanted, hgd]
 rw [if_pos hw]
 exact wp_push s x t ho f base F e i z bytes ht hi hz hsize hby hzs hsz v xs hs hown b c cs te y hx hbox hr hbytes hlen hbase H hH h
theorem cell_keep' {w w' : World} {a : Addr} {v : Value} (hb : Below w.heap.size w w') (h : w.cell? a = some v) : w'.cell? a = some v := (hb.cell (World.block_lt_of_cell? w _ h)).trans h
structure Cells6 (w : World) (b i : Nat) (v0 v1 v2 v3 v4 v5 : Value) : Prop where
 c0 : w.cell? ⟨b, i, none⟩ = some v0
 c1 : w.cell? ⟨b, i + 1, none⟩ = some v1
 c2 : w.cell? ⟨b, i + 2, none⟩ = some v2
 c3 : w.cell? ⟨b, i + 3, none⟩ = some v3
 c4 : w.cell? ⟨b, i + 4, none⟩ = some v4
 c5 : w.cell? ⟨b, i + 5, none⟩ = some v5
section
variable {w w' : World} {b i : Nat} {v0 v1 v2 v3 v4 v5 : Value}
theorem Cells6.keep (h : Cells6 w b i v0 v1 v2 v3 v4 v5) (hb : Below w.heap.size w w') : Cells6 w' b i v0 v1 v2 v3 v4 v5 := ⟨cell_keep' hb h.c0, cell_keep' hb h.c1, cell_keep' hb h.c2, cell_keep' hb h.c3, cell_keep' hb h.c4, cell_keep' hb h.c5⟩
theorem Cells6.alloc (h : Cells6 w b i v0 v1 v2 v3 v4 v5) (o : Obj) : Cells6 (w.alloc o) b i v0 v1 v2 v3 v4 v5 := h.keep ((Below.refl w.heap.size w).alloc (Nat.le_refl _) o)
theorem Cells6.drewN (h : Cells6 w b i v0 v1 v2 v3 v4 v5) (n : Nat) : Cells6 (w.drewN n) b i v0 v1 v2 v3 v4 v5 := ⟨h.c0, h.c1, h.c2, h.c3, h.c4, h.c5⟩
theorem Cells6.drew (h : Cells6 w b i v0 v1 v2 v3 v4 v5) : Cells6 w.drew b i v0 v1 v2 v3 v4 v5 := ⟨h.c0, h.c1, h.c2, h.c3, h.c4, h.c5⟩
theorem Cells6.far (h : Cells6 w b i v0 v1 v2 v3 v4 v5) {a : Addr} (hne : b ≠ a.block) (v : Value) : Cells6 (w.setCell a v) b i v0 v1 v2 v3 v4 v5 :=
  ⟨(World.cell?_of_block (a := ⟨b, i, none⟩) (Below.heap_setCell w a v b hne)).trans h.c0, (World.cell?_of_block (a := ⟨b, i + 1, none⟩) (Below.heap_setCell w a v b hne)).trans h.c1, (World.cell?_of_block (a := ⟨b, i + 2, none⟩) (Below.heap_setCell w a v b hne)).trans h.c2,
   (World.cell?_of_block (a := ⟨b, i + 3, none⟩) (Below.heap_setCell w a v b hne)).trans h.c3, (World.cell?_of_block (a := ⟨b, i + 4, none⟩) (Below.heap_setCell w a v b hne)).trans h.c4, (World.cell?_of_block (a := ⟨b, i + 5, none⟩) (Below.heap_setCell w a v b hne)).trans h.c5⟩
theorem Cells6.farS {S : Nat → Prop} (h : Cells6 w b i v0 v1 v2 v3 v4 v5) (hf : Far S w w') (hs : ¬ S b) : Cells6 w' b i v0 v1 v2 v3 v4 v5 := by
 have hl : b < w.heap.size := World.block_lt_of_cell? w _ h.c0
 have hk := hf.block b hl hs
 exact ⟨(World.cell?_of_block (a := ⟨b, i, none⟩) hk).trans h.c0, (World.cell?_of_block (a := ⟨b, i + 1, none⟩) hk).trans h.c1, (World.cell?_of_block (a := ⟨b, i + 2, none⟩) hk).trans h.c2, (World.cell?_of_block (a := ⟨b, i + 3, none⟩) hk).trans h.c3, (World.cell?_of_block (a := ⟨b, i + 4, none⟩) hk).trans h.c4, (World.cell?_of_block (a := ⟨b, i + 5, none⟩) hk).trans h.c5⟩
variable {c d j k : Nat} {t u : TypeId} {x0 x1 x2 x3 x4 x5 y0 y1 y2 y3 y4 y5 z0 z1 z2 z3 z4 z5 z6 r0 r1 : Value}
theorem cells766 (h : Box w b [z0, z1, z2, z3, z4, z5, z6] t) (m : Cells6 w c j x0 x1 x2 x3 x4 x5) (l : Cells6 w d k y0 y1 y2 y3 y4 y5) :
  w.cell? ⟨b, 0, none⟩ = some z0 ∧ w.cell? ⟨b, 1, none⟩ = some z1 ∧ w.cell? ⟨b, 2, none⟩ = some z2 ∧ w.cell? ⟨b, 3, none⟩ = some z3 ∧ w.cell? ⟨b, 4, none⟩ = some z4 ∧ w.cell? ⟨b, 5, none⟩ = some z5 ∧ w.cell? ⟨b, 6, none⟩ = some z6 ∧
  w.cell? ⟨c, j, none⟩ = some x0 ∧ w.cell? ⟨c, j + 1, none⟩ = some x1 ∧ w.cell? ⟨c, j + 2, none⟩ = some x2 ∧ w.cell? ⟨c, j + 3, none⟩ = some x3 ∧ w.cell? ⟨c, j + 4, none⟩ = some x4 ∧ w.cell? ⟨c, j + 5, none⟩ = some x5 ∧
  w.cell? ⟨d, k, none⟩ = some y0 ∧ w.cell? ⟨d, k + 1, none⟩ = some y1 ∧ w.cell? ⟨d, k + 2, none⟩ = some y2 ∧ w.cell? ⟨d, k + 3, none⟩ = some y3 ∧ w.cell? ⟨d, k + 4, none⟩ = some y4 ∧ w.cell? ⟨d, k + 5, none⟩ = some y5 :=
 ⟨h.cell 0, h.cell 1, h.cell 2, h.cell 3, h.cell 4, h.cell 5, h.cell 6, m.c0, m.c1, m.c2, m.c3, m.c4, m.c5, l.c0, l.c1, l.c2, l.c3, l.c4, l.c5⟩
theorem cells_w {e : Nat} (h : Box w b [z0, z1, z2, z3, z4, z5, z6] t) (m : Cells6 w c j x0 x1 x2 x3 x4 x5) (l : Cells6 w d k y0 y1 y2 y3 y4 y5) (r : Box w e [r0, r1] u) :
  w.cell? ⟨b, 1, none⟩ = some z1 ∧ w.cell? ⟨b, 2, none⟩ = some z2 ∧ w.cell? ⟨b, 3, none⟩ = some z3 ∧ w.cell? ⟨c, j, none⟩ = some x0 ∧ w.cell? ⟨c, j + 1, none⟩ = some x1 ∧ w.cell? ⟨c, j + 2, none⟩ = some x2 ∧
  w.cell? ⟨d, k, none⟩ = some y0 ∧ w.cell? ⟨d, k + 1, none⟩ = some y1 ∧ w.cell? ⟨d, k + 2, none⟩ = some y2 ∧ w.cell? ⟨e, 0, none⟩ = some r0 ∧ w.cell? ⟨e, 1, none⟩ = some r1 :=
 ⟨h.cell 1, h.cell 2, h.cell 3, m.c0, m.c1, m.c2, l.c0, l.c1, l.c2, r.cell 0, r.cell 1⟩
theorem cells_b {e : Nat} (h : Box w b [z0, z1, z2, z3, z4, z5, z6] t) (m : Cells6 w c j x0 x1 x2 x3 x4 x5) (l : Cells6 w d k y0 y1 y2 y3 y4 y5) (r : Box w e [r0, r1] u) :
  w.cell? ⟨b, 4, none⟩ = some z4 ∧ w.cell? ⟨b, 5, none⟩ = some z5 ∧ w.cell? ⟨b, 6, none⟩ = some z6 ∧ w.cell? ⟨c, j + 3, none⟩ = some x3 ∧ w.cell? ⟨c, j + 4, none⟩ = some x4 ∧ w.cell? ⟨c, j + 5, none⟩ = some x5 ∧
  w.cell? ⟨d, k + 3, none⟩ = some y3 ∧ w.cell? ⟨d, k + 4, none⟩ = some y4 ∧ w.cell? ⟨d, k + 5, none⟩ = some y5 ∧ w.cell? ⟨e, 0, none⟩ = some r0 ∧ w.cell? ⟨e, 1, none⟩ = some r1 :=
 ⟨h.cell 4, h.cell 5, h.cell 6, m.c3, m.c4, m.c5, l.c3, l.c4, l.c5, r.cell 0, r.cell 1⟩
end
theorem box7_16 {w : World} {b : Nat} {t : TypeId} {v0 v1 v2 v3 v4 v5 v6 : Value} (h : Box w b [v0, v1, v2, v3, v4, v5, v6] t) :
  w.cell? ⟨b, 1, none⟩ = some v1 ∧ w.cell? ⟨b, 2, none⟩ = some v2 ∧ w.cell? ⟨b, 3, none⟩ = some v3 ∧ w.cell? ⟨b, 4, none⟩ = some v4 ∧ w.cell? ⟨b, 5, none⟩ = some v5 ∧ w.cell? ⟨b, 6, none⟩ = some v6 := ⟨h.cell 1, h.cell 2, h.cell 3, h.cell 4, h.cell 5, h.cell 6⟩
end Gal
end
section
set_option linter.unusedVariables false
set_option linter.unusedSimpArgs false
set_option linter.unusedSectionVars false
namespace Gal
open Go Go.RowKit
theorem zeros_box {w : World} {b n : Nat} {t : TypeId} (h : Box w b ((zeros n).map (Value.int .i64)) t) (hl : n ≤ maxLen) : IntsAt w (some ⟨b, 0, none⟩) n n b 0 (zeros n) := by
 refine ⟨zeros_length _, Nat.le_refl _, hl, fun _ => rfl, fun _ => h.lt, fun i hi => ?_⟩
 rw [Nat.zero_add, h.cell, List.getElem?_map]
 unfold ix
 rw [List.getElem?_eq_getElem (by rw [zeros_length]; exact hi)]
 rfl
end Gal
namespace Go.Proofs.Ytchngeagnlngaaa
open Go.RowKit Gal
set_option maxRecDepth 100000
set_option maxHeartbeats 1000000
theorem zeroOne_any (m : Mat) (a : Option Addr) (n k b o : Nat) (w : World) (x0 : IntsAt w a n k b o m.cells) (hn : n * 8 ≤ 140737488355328) :
  Calls Try.prog 62 #[.agg #[.int .i64 m.rows, .int .i64 m.cols, .slice a n k]] w fun e w' => ∃ v, e = .returned v ∧ MatNew w.heap.size w' v (zeroMat m) ∧ Below w.heap.size w w' := by
 obtain ⟨i0, hi, hz0, hz1, hz2⟩ := info_parts info_int
 have hmk := fun W => run_make_rowN (P := Try.prog) 26 3 i0 _ Try.underlying26 hi hz0 .i64 .i64 n n (n : Int) (n : Int) rfl rfl (Nat.le_refl _) (by rw [hz2]; omega) (by omega) W
 rw [hz1, Nat.mul_one] at hmk
 have hmc : (madeCells (Value.int .i64 0).cells n) = ((zeros n).map (Value.int .i64)).toArray := by
  apply Array.toList_inj.1
  show (madeCells #[Value.int .i64 0] n).toList = _
  rw [toList_madeCells_one]
  simp [zeros]
 rw [hmc] at hmk
 clear hmc
 have HN : Hid (n ≤ maxLen) := Lib.hid (by unfold maxLen; omega)
 have HL : Hid (zeroMat m = ⟨m.rows, m.cols, zeros n⟩) := Lib.hid (by unfold zeroMat; rw [x0.len])
 clear x0 hn
 go_enter Try.func62, Try.ntmps62
 go_wp2_with fail
 obtain ⟨w0, hw0, B0, B1, hb0⟩ : ∃ w0, ((w.alloc (.cells #[.int .i64 m.rows, .int .i64 m.cols, .slice a n k] 28)).alloc (.cells #[.int .i64 0, .int .i64 0, .slice none 0 0] 28)) = w0 ∧
   Box w0 w.heap.size [.int .i64 m.rows, .int .i64 m.cols, .slice a n k] 28 ∧ Box w0 (w.heap.size + 1) [.int .i64 0, .int .i64 0, .slice none 0 0] 28 ∧ Below w.heap.size w w0 :=
  ⟨_, rfl, Box.x0, Box.x0, Below.x0⟩
 rw [hw0]
 clear hw0
 have hz : w.heap.size + 1 < w0.heap.size := B1.lt
 have B0 := B0
 have B0c := B0.cell
 have B0f := B0.thawed
 have B0z := B0.lt
 have B0k := lt_add B0z
 have B1 := B1
 have B1c := B1.cell
 have B1f := B1.thawed
 have B1z := B1.lt
 have B1k := lt_add B1z
 go_region
 all_goals (
  go_wp2_with fail
  refine bodyPost_ret (v := .agg #[.int .i64 m.rows, .int .i64 m.cols, .slice (some ⟨w0.heap.size, 0, none⟩) n n]) (by simp [results, Try.results62, go_sem, B1c, B1z]) rfl ⟨_, rfl, ?_, ?_⟩
  ·rw [HL.out]
   exact MatNew.mk (fun _ => by omega) (zeros_box (Box.drew (Box.new' _ w0.heap.size _ _ (by simp))) HN.out)
  ·exact (Below.y0 hb0))
theorem info_grad : (Try.prog.info? 93).map (fun i => (i.zero, i.size, i.bytes)) = some (some (.agg #[.int .i64 0, .int .i64 0, .slice none 0 0, .int .i64 0, .int .i64 0, .slice none 0 0]), 6, 80) := by kernel_rfl
def Loose (w : World) (base n b : Nat) : Prop := 0 < n → base ≤ b ∧ ∃ cs, w.heap[b]? = some (.cells cs 93)
theorem Loose.kept {w w' : World} {base n b : Nat} (h : Loose w base n b) (hb : 0 < n → base ≤ b → b < w.heap.size → w'.heap[b]? = w.heap[b]?) : Loose w' base n b := fun hn => by
 obtain ⟨h1, cs, h2⟩ := h hn
 exact ⟨h1, cs, by rw [hb hn h1 (heap_lt h2)]; exact h2⟩
theorem Loose.keep {w w' : World} {base n b : Nat} (h : Loose w base n b) (hb : Below w.heap.size w w') : Loose w' base n b := h.kept fun _ _ hl => hb.block b hl
theorem Loose.wide {w : World} {base B n b : Nat} (h : Loose w base n b) (hb : B ≤ base) : Loose w B n b := fun hn => ⟨Nat.le_trans hb (h hn).1, (h hn).2⟩
theorem Loose.farS {S : Nat → Prop} {w w' : World} {base n b : Nat} (h : Loose w base n b) (hf : Far S w w') (hS : ∀ c, base ≤ c → c < w.heap.size → ¬ S c) : Loose w' base n b := h.kept fun _ h1 hl => hf.block b hl (hS b h1 hl)
theorem OwnRow.loose {w : World} {base : Nat} {F : Nat → Prop} {a : Option Addr} {n k b : Nat} {xs : List Grd} (h : OwnRow Form.grd 93 w base F (.slice a n k) xs) (hb : 0 < n → a = some ⟨b, 0, none⟩) : Loose w base n b := fun hn => by
 obtain ⟨cs, ⟨_, h2⟩, _⟩ := h.holds
 rcases h2 with ⟨e, h0⟩ | ⟨g, cap, cur, e, hg, hh, _⟩
 ·simp at e; omega
 ·rw [hb hn] at e
  simp at e
  obtain ⟨rfl, _⟩ := e
  exact ⟨hg, cur, hh⟩
theorem netZero_loose (ls : List Lay) (F : Nat → Prop) (a : Option Addr) (n k b o : Nat) (w : World) (h : RowAt Form.lay w F a n k b o ls) (hm : ∀ i, i < n → (lx ls i).W.cells.length * 8 ≤ 140737488355328 ∧ (lx ls i).B.cells.length * 8 ≤ 140737488355328) (hn : n * 80 ≤ 140737488355328) :
    Calls Try.prog 25 #[.slice a n k] w fun e w' => ∃ a' k' b', e = .returned (.slice a' n k') ∧ Below w.heap.size w w' ∧ RowAt Form.grd w' (newB w.heap.size) a' n k' b' 0 (zeroNet ls) ∧ Loose w' w.heap.size n b' := by
  obtain ⟨i0, hi, hz0, hz1, hz2⟩ := info_parts info_grad
  have hl := h.len
  have HM := Lib.hid hm
  have HT : ∀ t, t < n → (zeroNet ls).take (t + 1) = (zeroNet ls).take t ++ [zeroGrd (lx ls t)] := fun t ht => by
    rw [List.take_add_one]
    congr 1
    rw [gx_get (by rw [zeroNet_length, hl]; exact ht), zeroNet_gx]
    rfl
  have HTT := Lib.hid HT
  have HLEN : Hid (∀ t, t ≤ n → ((zeroNet ls).take t).length = t) := Lib.hid fun t ht => by rw [List.length_take, zeroNet_length, hl]; omega
  have HALL : Hid ((zeroNet ls).take n = zeroNet ls) := Lib.hid (by rw [← hl, ← zeroNet_length]; exact List.take_length)
  clear HT hm
  have HN := Lib.hid hn
  have hn1 : n ≤ 9223372036854775807 := by omega
  clear hn
  go_enter Try.func25, Try.ntmps25
  go_wp2_with fail
  go_loopw [3, 9] (fun s j wr => ∃ t : Nat, t ≤ n ∧ j = .int .i64 t ∧ OwnRow Form.grd 93 wr w.heap.size (newB w.heap.size) s ((zeroNet ls).take t) ∧ Below w.heap.size w wr) (fun _ j _ => n - (intOf j).toNat)
  case atStart => exact ⟨0, Nat.zero_le _, rfl, OwnRow.nil _ _ _ _ _, Below.refl _ _⟩
  case round =>
    obtain ⟨t, ht, rfl, hown, hbr⟩ := hrel
    by_cases hlt : t < n
    · obtain rfl := h.ptr (by omega)
      obtain ⟨a4, n4, k4, b4, o4, a5, n5, k5, b5, o5, c0, c1, c2, c3, c4, c5, c6, x4, x5⟩ := lay_cells (h.keep hbr) hlt
      have hs4 : n4 * 8 ≤ 140737488355328 := by have := (HM.out t hlt).1; rw [x4.len] at this; exact this
      have hs5 : n5 * 8 ≤ 140737488355328 := by have := (HM.out t hlt).2; rw [x5.len] at this; exact this
      obtain ⟨d, hd⟩ : ∃ d, d = lx ls t := ⟨_, rfl⟩
      rw [← hd] at c0 c1 c2 c4 c5 x4 x5
      have HD := Lib.hid hd
      clear hd
      have BX := Box.new wr [.int .i64 d.kind, .int .i64 d.W.rows, .int .i64 d.W.cols, .slice a4 n4 k4, .int .i64 d.B.rows, .int .i64 d.B.cols, .slice a5 n5 k5] 69
      have hal : Below wr.heap.size wr (wr.alloc (.cells #[.int .i64 d.kind, .int .i64 d.W.rows, .int .i64 d.W.cols, .slice a4 n4 k4, .int .i64 d.B.rows, .int .i64 d.B.cols, .slice a5 n5 k5] 69)) := Below.x0
      replace x4 := x4.keep hal
      replace x5 := x5.keep hal
      obtain ⟨av, cv, hsv⟩ := hown.slice
      rw [HLEN.out t (by omega)] at hsv
      subst hsv
      have HOB := Lib.hid hown.base_le
      have hwz := hbr.size
      go_wp2_with fail
      go_region_held3 (fun w' => w'.cell? ⟨wr.heap.size, 1, none⟩ = some (.int .i64 d.W.rows) ∧ w'.cell? ⟨wr.heap.size, 2, none⟩ = some (.int .i64 d.W.cols) ∧ w'.cell? ⟨wr.heap.size, 3, none⟩ = some (.slice a4 n4 k4) ∧ w'.cell? ⟨wr.heap.size, 4, none⟩ = some (.int .i64 d.B.rows) ∧ w'.cell? ⟨wr.heap.size, 5, none⟩ = some (.int .i64 d.B.cols) ∧ w'.cell? ⟨wr.heap.size, 6, none⟩ = some (.slice a5 n5 k5))
        (first | exact box7_16 (t := 69) BX9 | exact box7_16 (t := 69) (by repeat (first | (with_reducible first | exact BX | refine Box.alloc ?_ _ | refine Box.drewN ?_ _ | refine Box.drew ?_ | refine Box.fx ?_ _ | refine Box.keep ?_ hb8 | refine Box.keep ?_ hb7) | exact BX)) | exact box7_16 (t := 69) (by first | exact BX.k1 hb7 | exact BX.k) | exact box7_16 (t := 69) BX.k)
        (first
        | ((refine at_oper ⟨some 24, _, _, _, _, _⟩ ?_; have hb8' := hb8; have q7 := hb7.size; have q8 := hb8.size; have q1 : 0 < n7 → wr.heap.size < b7 := (by intro h; have := hn7 h; simp at this; omega); have q2 : 0 < n8 → wr.heap.size < b8 := (by intro h; have := hn8 h; simp at this q7; omega); have q3 : w.heap.size ≤ w8.heap.size := (by simp at q7 q8; omega); have q4 : (((zeroNet ls).take t).length + 1) * 80 ≤ 140737488355328 := (by rw [HLEN.out t (by omega)]; have := HN.out; omega); have q5 : ((zeroNet ls).take t).length + 1 ≤ maxLen := (by rw [HLEN.out t (by omega)]; have := HN.out; unfold maxLen; omega); have q6 : 0 < n7 → newB w.heap.size b7 ∧ (Value.slice av t cv).ownBlock ≠ some b7 := (fun h => ⟨by have := q1 h; unfold newB; omega, fun e => by have := (HOB.out b7 e).2; have := q1 h; omega⟩); have q6' : 0 < n8 → newB w.heap.size b8 ∧ (Value.slice av t cv).ownBlock ≠ some b8 := (fun h => ⟨by have := q2 h; unfold newB; omega, fun e => by have := (HOB.out b8 e).2; have := q2 h; omega⟩); go_must (refine step_push rfl (.tmp 13) (.tmp 23) 23 rfl Form.grd w.heap.size (newB w.heap.size) 93 i0 (.agg #[.int .i64 0, .int .i64 0, .slice none 0 0, .int .i64 0, .int .i64 0, .slice none 0 0]) 80 Try.underlying23 hi hz0 hz1 hz2 (by rfl) (by decide) (.slice av t cv) ((zeroNet ls).take t) (by rfl) (OwnRow.keep hown (Below.x2 hb8 hb7)) w8.heap.size 1 [.int .i64 (zeroMat d.W).rows, .int .i64 (zeroMat d.W).cols, .slice a7 n7 k7, .int .i64 (zeroMat d.B).rows, .int .i64 (zeroMat d.B).cols, .slice a8 n8 k8] 93 (zeroGrd d) (by rfl) Box.x0 (reads_grd (d := zeroGrd d) (F := fun b => newB w.heap.size b ∧ (Value.slice av t cv).ownBlock ≠ some b) (b := b7) (b' := b8) (o := o7) (o' := o8) q6 (by first | exact x7.k1 hb8 | exact x7.k) q6' x8.k) q4 q5 (by simp; omega) _ rfl ?_); intro g1 cap1 w9 hown1 hgrow hat hlt1; have hb9 : Below w.heap.size w w9 := Below.grown (by repeat (first | (with_reducible first | exact Below.refl _ _ | exact hbr | refine Below.al ?_ _ | refine Below.drN ?_ _ | refine Below.drew ?_ | refine Below.sx ?_ _ | refine Below.go ?_ hb8 | refine Below.go ?_ hb7) | exact Below.refl _ _ | exact hbr)) hgrow (by simp; omega) (fun q hq => (HOB.out q hq).1); have BX9 : Box w9 wr.heap.size [.int .i64 d.kind, .int .i64 d.W.rows, .int .i64 d.W.cols, .slice a4 n4 k4, .int .i64 d.B.rows, .int .i64 d.B.cols, .slice a5 n5 k5] 69 := Box.grown (by repeat (first | (with_reducible first | exact BX | refine Box.alloc ?_ _ | refine Box.drewN ?_ _ | refine Box.drew ?_ | refine Box.fx ?_ _ | refine Box.keep ?_ hb8 | refine Box.keep ?_ hb7) | exact BX)) hgrow (fun e => by have := (HOB.out wr.heap.size e.symm).2; omega)))
        | (go_at_call 62; have hb7' := hb7; go_must (refine (zeroOne_any d.B _ _ _ _ _ _ (show IntsAt _ a5 n5 k5 b5 o5 d.B.cells from (by first | exact x5.k1 hb7 | exact x5.k)) hs5).mono ?_); go_must (rintro e w8 ⟨v8, rfl, ⟨a8, n8, k8, b8, o8, rfl, hn8, x8⟩, hb8⟩))
        | (go_at_call 62; go_must (refine (zeroOne_any d.W _ _ _ _ _ _ (show IntsAt _ a4 n4 k4 b4 o4 d.W.cells from x4.k) hs4).mono ?_); go_must (rintro e w7 ⟨v7, rfl, ⟨a7, n7, k7, b7, o7, rfl, hn7, x7⟩, hb7⟩)))
      go_wp2
      go_roundw
      case rel => exact ⟨t + 1, by omega, by go_num, by rw [HTT.out t hlt, ← HD.out]; rw [HLEN.out t (by omega)] at hown1; (first | exact hown1 | (simp only [List.length_take, zeroNet_length, hl]; rw [Nat.min_eq_left (by omega)]; exact hown1)), hb9⟩
      case measure => simp [intOf]; omega
    · obtain rfl : t = n := by omega
      obtain ⟨av, cv, b', rfl, hb', hrow⟩ := hown.row (G := newB w.heap.size) (fun b h _ => h) (fun b h => h)
      rw [HLEN.out t (Nat.le_refl _)] at hb' hrow
      rw [HALL.out] at hrow
      have HR := Lib.hid hrow
      have HLO := Lib.hid (OwnRow.loose (b := b') (by rw [HLEN.out t (Nat.le_refl _)] at hown; exact hown) (fun hn => hrow.ptr hn))
      have HL := HLEN.out t (Nat.le_refl _)
      have HL' := Lib.hid HL
      clear hown hrow HL
      go_wp2
      rw [HL'.out]
      go_ret
      exact ⟨av, cv, b', rfl, hbr, HR.out, HLO.out⟩
theorem netZero_any (ls : List Lay) (F : Nat → Prop) (a : Option Addr) (n k b o : Nat) (w : World) (h : RowAt Form.lay w F a n k b o ls) (hm : ∀ i, i < n → (lx ls i).W.cells.length * 8 ≤ 140737488355328 ∧ (lx ls i).B.cells.length * 8 ≤ 140737488355328) (hn : n * 80 ≤ 140737488355328) :
  Calls Try.prog 25 #[.slice a n k] w fun e w' => ∃ a' k' b', e = .returned (.slice a' n k') ∧ Below w.heap.size w w' ∧ RowAt Form.grd w' (newB w.heap.size) a' n k' b' 0 (zeroNet ls) :=
 (netZero_loose ls F a n k b o w h hm hn).mono fun _ _ ⟨a', k', b', h1, h2, h3, _⟩ => ⟨a', k', b', h1, h2, h3⟩
end Go.Proofs.Ytchngeagnlngaaa
end
