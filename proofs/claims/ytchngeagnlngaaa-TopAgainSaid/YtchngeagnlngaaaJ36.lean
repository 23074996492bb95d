/- Texts joined: BackSt. -/
import Derived.Test.YtchngeagnlngaaaJ08
import Derived.Test.YtchngeagnlngaaaJ04
import Derived.Test.YtchngeagnlngaaaJ18
import Derived.Test.YtchngeagnlngaaaJ33
import Derived.Test.YtchngeagnlngaaaJ25
import Derived.Test.YtchngeagnlngaaaJ35
section
set_option linter.unusedVariables false
set_option linter.unusedSimpArgs false
set_option linter.unusedSectionVars false
namespace Gal
open Go Go.RowKit
theorem ints_grown {w w' : World} {row : Option Nat} {a : Option Addr} {n cap b o : Nat} {xs : List Int} (h : IntsAt w a n cap b o xs) (hg : w.grownBy w' row) (hr : ∀ r, row = some r → ∃ ob : Obj, w.heap[r]? = some ob ∧ ob.isCells = false) : IntsAt w' a n cap b o xs :=
 ⟨h.len, h.le, h.maxc, h.ptr, fun hn => Nat.lt_of_lt_of_le (h.lt hn) hg.size, fun i hi => cell_kept (h.cell i hi) hg hr⟩
theorem box_grown {w w' : World} {row : Option Nat} {b : Nat} {cs : List Value} {t : TypeId} (h : Box w b cs t) (hg : w.grownBy w' row) (hr : ∀ r, row = some r → ∃ ob : Obj, w.heap[r]? = some ob ∧ ob.isCells = false) : Box w' b cs t :=
 h.grown hg fun e => by
  obtain ⟨ob, h1, h2⟩ := hr b e.symm
  unfold Box at h
  rw [h] at h1
  cases h1
  cases h2
def newPQ (base p q b : Nat) : Prop := base ≤ b ∧ b ≠ p ∧ b ≠ q
theorem below_grown' {B : Nat} {a w w' : World} {row : Option Nat} (h : Below B a w) (hg : w.grownBy w' row) (hr : ∀ r, row = some r → B ≤ r) (hB : B ≤ w.heap.size) : Below B a w' :=
 ⟨hg.os.trans h.os, hg.tape.trans h.tape, hg.output.trans h.output, Nat.le_trans h.size hg.size, fun k hk => (hg.block k (by omega) (fun e => by have := hr k e.symm; omega)).trans (h.block k hk)⟩
theorem cellsBk {w : World} {b c d e i : Nat} {t0 t1 t2 : TypeId} {v0 v1 v2 v3 v4 v5 v6 u x y z x' y' z' : Value} (h : Box w b [v0, v1, v2, v3, v4, v5, v6] t0) (k : Box w c [u] t1) (m : Cells3 w d i x y z) (g : Box w e [x', y', z'] t2) :
  w.cell? ⟨b, 0, none⟩ = some v0 ∧ w.cell? ⟨b, 1, none⟩ = some v1 ∧ w.cell? ⟨b, 2, none⟩ = some v2 ∧ w.cell? ⟨b, 3, none⟩ = some v3 ∧ w.cell? ⟨b, 4, none⟩ = some v4 ∧ w.cell? ⟨b, 5, none⟩ = some v5 ∧ w.cell? ⟨b, 6, none⟩ = some v6 ∧ w.cell? ⟨c, 0, none⟩ = some u ∧
   w.cell? ⟨d, i, none⟩ = some x ∧ w.cell? ⟨d, i + 1, none⟩ = some y ∧ w.cell? ⟨d, i + 2, none⟩ = some z ∧ w.cell? ⟨e, 0, none⟩ = some x' ∧ w.cell? ⟨e, 1, none⟩ = some y' ∧ w.cell? ⟨e, 2, none⟩ = some z' :=
 ⟨h.cell 0, h.cell 1, h.cell 2, h.cell 3, h.cell 4, h.cell 5, h.cell 6, k.cell 0, m.c0, m.c1, m.c2, g.cell 0, g.cell 1, g.cell 2⟩
theorem cellsBm {w : World} {b c d : Nat} {t0 t1 t2 : TypeId} {u x y z v0 v1 v2 v3 v4 v5 : Value} (h : Box w b [u] t0) (k : Box w c [x, y, z] t1) (m : Box w d [v0, v1, v2, v3, v4, v5] t2) :
  w.cell? ⟨b, 0, none⟩ = some u ∧ w.cell? ⟨c, 0, none⟩ = some x ∧ w.cell? ⟨c, 1, none⟩ = some y ∧ w.cell? ⟨c, 2, none⟩ = some z ∧ w.cell? ⟨d, 0, none⟩ = some v0 ∧ w.cell? ⟨d, 1, none⟩ = some v1 ∧ w.cell? ⟨d, 2, none⟩ = some v2 ∧ w.cell? ⟨d, 3, none⟩ = some v3 ∧ w.cell? ⟨d, 4, none⟩ = some v4 ∧ w.cell? ⟨d, 5, none⟩ = some v5 :=
 ⟨h.cell 0, k.cell 0, k.cell 1, k.cell 2, m.cell 0, m.cell 1, m.cell 2, m.cell 3, m.cell 4, m.cell 5⟩
theorem keepsFrom_far {B : Nat} {S : Nat → Prop} {w w' : World} (h : Far S w w') (hS : ∀ k, S k → k < B) : KeepsFrom B w w' :=
 ⟨h.size, fun k o hB hk _ => (h.block k (Array.getElem?_eq_some_iff.1 hk).1 (fun e => absurd (hS k e) (by omega))).trans hk⟩
structure BackSt (tm tg : TypeId) (ls : List Lay) (ss : List Mat) (g : Mat) (n : Nat) (wl : World) (base p q : Nat) (l : List Nat) (w : World) : Prop where
 far : Far (fun b => b = p ∨ b = q) wl w
 ok : OkTo ls ss g l
 cur : ∃ a m c b o, Box w p [.int .i64 (gone ls ss g l).1.rows, .int .i64 (gone ls ss g l).1.cols, .slice a m c] tm ∧ IntsAt w a m c b o (gone ls ss g l).1.cells ∧ (0 < m → newPQ base p q b)
 outs : ∃ cs, Box w q cs tg ∧ cs.length = n * 6 ∧ ∀ j d, (gone ls ss g l).2 j = some d → j < n → ∃ c, Form.grd.reads w (newPQ base p q) c d ∧ ∀ i, i < 6 → cs[j * 6 + i]? = c[i]?
end Gal
namespace Go.Proofs.Ytchngeagnlngaaa
open Go.RowKit Gal
theorem reads_grown {w w' : World} {row : Option Nat} {F : Nat → Prop} {c : List Value} {d : Grd} (h : Form.grd.reads w F c d) (hg : w.grownBy w' row) (hr : ∀ r, row = some r → ∃ ob : Obj, w.heap[r]? = some ob ∧ ob.isCells = false) : Form.grd.reads w' F c d := by
 obtain ⟨a1, n1, k1, b1, o1, a2, n2, k2, b2, o2, rfl, f1, x1, f2, x2⟩ := grd_reads h
 exact reads_grd f1 (ints_grown x1 hg hr) f2 (ints_grown x2 hg hr)
theorem backSt_grown {tm tg : TypeId} {ls : List Lay} {ss : List Mat} {g : Mat} {n : Nat} {wl : World} {base p q : Nat} {l : List Nat} {w w' : World} {row : Option Nat} (h : BackSt tm tg ls ss g n wl base p q l w) (hg : w.grownBy w' row)
  (hr : ∀ r, row = some r → wl.heap.size ≤ r ∧ ∃ ob : Obj, w.heap[r]? = some ob ∧ ob.isCells = false) : BackSt tm tg ls ss g n wl base p q l w' where
 far := h.far.grown hg (fun k e hk => absurd (hr k e).1 (by omega))
 ok := h.ok
 cur := by
  obtain ⟨a, m, c, b, o, h1, h2, h3⟩ := h.cur
  exact ⟨a, m, c, b, o, box_grown h1 hg (fun r e => (hr r e).2), ints_grown h2 hg (fun r e => (hr r e).2), h3⟩
 outs := by
  obtain ⟨cs, h1, h2, h3⟩ := h.outs
  refine ⟨cs, box_grown h1 hg (fun r e => (hr r e).2), h2, fun j d hj hn => ?_⟩
  obtain ⟨c, h4, h5⟩ := h3 j d hj hn
  exact ⟨c, reads_grown h4 hg (fun r e => (hr r e).2), h5⟩
theorem backSt_alloc {tm tg : TypeId} {ls : List Lay} {ss : List Mat} {g : Mat} {n : Nat} {wl : World} {base p q : Nat} {l : List Nat} {w : World} (h : BackSt tm tg ls ss g n wl base p q l w) (o : Obj) : BackSt tm tg ls ss g n wl base p q l (w.alloc o) :=
 backSt_grown h (World.grownBy_alloc w o none) (fun r e => by cases e)
theorem backSt_next {tm tg : TypeId} {ls : List Lay} {ss : List Mat} {g : Mat} {n : Nat} {wl : World} {base p q : Nat} {l : List Nat} {w we : World} {x m c b o nA kA bA oA nB kB bB oB : Nat} {a aA aB : Option Addr} {cs : List Value} {L : Lay} {M G : Mat}
  (h : BackSt tm tg ls ss g n wl base p q l w) (hx : x < n) (hL : L = lx ls x) (hM : M = mx ss x) (hG : G = (gone ls ss g l).1) (hf : L.backFault M G = 0) (hfar : Far (fun b => b = p ∨ b = q) w we) (hp : p < w.heap.size) (hq : q < w.heap.size) (hbase : base ≤ w.heap.size) (hcs : cs.length = n * 6)
  (hcells : ∀ j d, (gone ls ss g l).2 j = some d → j < n → ∃ c, Form.grd.reads w (newPQ base p q) c d ∧ ∀ i, i < 6 → cs[j * 6 + i]? = c[i]?)
  (hP : Box we p [.int .i64 (L.back M G).rows, .int .i64 (L.back M G).cols, .slice a m c] tm) (hi : IntsAt we a m c b o (L.back M G).cells) (hb : 0 < m → w.heap.size ≤ b)
  (hQ : Box we q ((((((cs.set (x * 6) (.int .i64 (L.grad M G).W.rows)).set (x * 6 + 1) (.int .i64 (L.grad M G).W.cols)).set (x * 6 + 2) (.slice aA nA kA)).set (x * 6 + 3) (.int .i64 (L.grad M G).B.rows)).set (x * 6 + 4) (.int .i64 (L.grad M G).B.cols)).set (x * 6 + 5) (.slice aB nB kB)) tg)
  (hA : IntsAt we aA nA kA bA oA (L.grad M G).W.cells) (hbA : 0 < nA → w.heap.size ≤ bA) (hB : IntsAt we aB nB kB bB oB (L.grad M G).B.cells) (hbB : 0 < nB → w.heap.size ≤ bB) : BackSt tm tg ls ss g n wl base p q (l ++ [x]) we := by
 subst hL hM hG
 refine ⟨h.far.trans hfar, h.ok.snoc hf, ?_, ?_⟩
 ·rw [gone_snoc]
  exact ⟨a, m, c, b, o, hP, hi, fun hm => by have := hb hm; exact ⟨by omega, by omega, by omega⟩⟩
 ·refine ⟨_, hQ, by simp [hcs], fun j d hj hjn => ?_⟩
  rw [gone_snoc] at hj
  dsimp only at hj
  by_cases e : j = x
  ·subst e
   rw [if_pos rfl] at hj
   cases hj
   exact ⟨_, reads_grd (fun hm => by have := hbA hm; exact ⟨by omega, by omega, by omega⟩) hA (fun hm => by have := hbB hm; exact ⟨by omega, by omega, by omega⟩) hB, sets6 (by omega) _ _ _ _ _ _⟩
  ·rw [if_neg e] at hj
   obtain ⟨c', hr, hc⟩ := hcells j d hj hjn
   refine ⟨c', reads_farS hr hfar (fun b hb _ => by rintro (e | e); exact hb.2.1 e; exact hb.2.2 e), fun i hi => ?_⟩
   rw [← hc i hi, List.getElem?_set_ne (by omega), List.getElem?_set_ne (by omega), List.getElem?_set_ne (by omega), List.getElem?_set_ne (by omega), List.getElem?_set_ne (by omega), List.getElem?_set_ne (by omega)]
theorem backSt_done {tm tg : TypeId} {ls : List Lay} {ss : List Mat} {g : Mat} {n : Nat} {wl : World} {base p q : Nat} {w : World} (h : BackSt tm tg ls ss g n wl base p q (descs n n) w) (hn : n ≤ maxLen) (hq : base ≤ q) :
  bF ls ss g n n = 0 ∧ (∃ a m c b o, Box w p [.int .i64 (bM ls ss g n n).rows, .int .i64 (bM ls ss g n n).cols, .slice a m c] tm ∧ IntsAt w a m c b o (bM ls ss g n n).cells ∧ (0 < m → base ≤ b)) ∧
   RowAt Form.grd w (newB base) (some ⟨q, 0, none⟩) n n q 0 (bDs ls ss g n) := by
 obtain ⟨h1, h2⟩ := gone_descs (ls := ls) (ss := ss) (g := g) n n (Nat.le_refl _)
 refine ⟨bF_descs n n (Nat.le_refl _) h.ok, ?_, ?_⟩
 ·obtain ⟨a, m, c, b, o, k1, k2, k3⟩ := h.cur
  rw [h1] at k1 k2
  exact ⟨a, m, c, b, o, k1, k2, fun hm => (k3 hm).1⟩
 ·obtain ⟨cs, k1, k2, k3⟩ := h.outs
  refine ⟨bDs_length, Nat.le_refl _, hn, fun _ => rfl, fun _ => k1.lt, fun _ => hq, fun i x hx => ?_⟩
  have hi : i < n := by have := (List.getElem?_eq_some_iff.1 hx).1; rwa [bDs_length] at this
  have e : x = bD ls ss g n (n - 1 - i) := by have := gx_get (ds := bDs ls ss g n) (by rw [bDs_length]; exact hi); rw [hx, bDs_gx hi] at this; exact Option.some.inj this
  subst e
  obtain ⟨c, hr, hc⟩ := k3 i _ (h2 i (by omega) hi) hi
  exact ⟨c, Form.grd.wide (fun b hb _ => hb.1) hr, fun j hj => by rw [Nat.zero_add, k1.cell]; exact hc j hj⟩
theorem row_grown {w w' : World} {row : Option Nat} {F : Nat → Prop} {a : Option Addr} {n k b o : Nat} {ds : List Grd} (h : RowAt Form.grd w F a n k b o ds) (hg : w.grownBy w' row) (hr : ∀ r, row = some r → ∃ ob : Obj, w.heap[r]? = some ob ∧ ob.isCells = false) : RowAt Form.grd w' F a n k b o ds where
 len := h.len
 le := h.le
 maxc := h.maxc
 ptr := h.ptr
 lt := fun h0 => Nat.lt_of_lt_of_le (h.lt h0) hg.size
 blk := h.blk
 cell := fun i x hx => by
  obtain ⟨cs, h1, h2⟩ := h.cell i x hx
  refine ⟨cs, reads_grown h1 hg hr, fun j hj => ?_⟩
  have hl : j < cs.length := by rw [Form.grd.len h1]; exact hj
  have h3 := h2 j hj
  rw [List.getElem?_eq_getElem hl] at h3 ⊢
  exact cell_kept h3 hg hr
end Go.Proofs.Ytchngeagnlngaaa
end
