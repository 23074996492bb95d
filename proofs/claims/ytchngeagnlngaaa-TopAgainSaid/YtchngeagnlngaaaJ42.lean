/- Texts joined: Train5, PAgain, AgainSt. -/
import Derived.Test.YtchngeagnlngaaaJ40
import Derived.Test.YtchngeagnlngaaaJ41
import Derived.Test.YtchngeagnlngaaaJ08
import Derived.Test.YtchngeagnlngaaaJ02
import Derived.Test.YtchngeagnlngaaaJ36
section
set_option linter.unusedVariables false
set_option linter.unusedSimpArgs false
set_option linter.unusedSectionVars false
set_option maxRecDepth 100000
namespace Gal
open Go Go.RowKit
theorem int_one {W : Go.World} {b : Nat} {x : Int} {t : Go.TypeId} (h : Box W b [.int .i64 x] t) : IntsAt W (some ⟨b, 0, none⟩) 1 1 b 0 [x] :=
 ⟨rfl, Nat.le_refl _, by decide, fun _ => rfl, fun _ => h.lt, fun i (hi : i < 1) => by
  obtain rfl : i = 0 := by omega
  exact h.cell 0⟩
def factL : Lay := ⟨3, ⟨1, 1, [256]⟩, Mat.none⟩
def factS : Sta := ⟨[factL], zeroNet [factL], 0⟩
def factB : Bat := ⟨⟨1, 1, [256]⟩, ⟨1, 1, [512]⟩⟩
theorem fact_one : oneFault factS factB 1 128 0 = 0 ∧ oneOff factS factB 1 = 128 ∧ (oneOf factS factB 1 128 0).N.length = 1 ∧ (lx (oneOf factS factB 1 128 0).N 0).W.cells = [384] ∧ (oneOf factS factB 1 128 0).steps = 1 := by decide +kernel
theorem factL_small : ∀ i, i < 1 → (lx [factL] i).W.cells.length * 8 ≤ 140737488355328 ∧ (lx [factL] i).B.cells.length * 8 ≤ 140737488355328 := fun i hi => by
 obtain rfl : i = 0 := by omega
 decide
end Gal
namespace Go.Proofs.Ytchngeagnlngaaa
open Go.RowKit Gal
set_option maxHeartbeats 8000000
theorem topOne_any (w : World) : Calls Try.prog 6 #[] w fun e w' => e = .returned (.bool true) ∧ Below w.heap.size w w' := by
 obtain ⟨g1, g2, g3, g4, g5⟩ := fact_one
 have G1 := Lib.hid g1
 have G2 := Lib.hid g2
 have G3 := Lib.hid g3
 have G4 := Lib.hid g4
 have G5 := Lib.hid g5
 have GE : Hid (errV (oneFault factS factB 1 128 0) = .nilIface) := Lib.hid (errV_nil g1)
 clear g1 g2 g3 g4 g5
 go_enter Try.func6, Try.ntmps6
 go_wp2_with fail
 refine (trainBegin_any [factL] anyB _ 1 1 (w.heap.size + 1) 0 _ (row_one (T := 69) (show Box _ (w.heap.size + 1) [.int .i64 3, .int .i64 1, .int .i64 1, .slice (some ⟨w.heap.size, 0, none⟩) 1 1, .int .i64 0, .int .i64 0, .slice none 0 0] 69 from Box.x0) (show Form.lay.reads _ anyB [.int .i64 3, .int .i64 1, .int .i64 1, .slice (some ⟨w.heap.size, 0, none⟩) 1 1, .int .i64 0, .int .i64 0, .slice none 0 0] factL from reads_lay (l := factL) (b := w.heap.size) (o := 0) (b' := 0) (o' := 0) (fun _ => trivial) (int_one (t := 3) (show Box _ w.heap.size [.int .i64 256] 3 from Box.x0)) (fun _ => trivial) (noInts _)) trivial) factL_small (by decide)).mono ?_
 rintro e w1 ⟨v1, rfl, hb1, a9, n9, k9, b9, a8, n8, k8, b8, rfl, q0, q1⟩
 have hbw1 : Below w.heap.size w w1 := (Below.x1 hb1)
 have q0w := q0
 clear hb1
 go_wp2_with fail
 refine (trainOne_any factS factB 1 128 0 _ _ _ _ _ _ _ _ _ _ _ _ _ _ (q0.alloc _ |>.alloc _ |>.alloc _ |>.alloc _) (q1.alloc _ |>.alloc _ |>.alloc _ |>.alloc _) ⟨some ⟨w1.heap.size + 1, 0, none⟩, 1, 1, w1.heap.size + 1, 0, some ⟨w1.heap.size + 1 + 1, 0, none⟩, 1, 1, w1.heap.size + 1 + 1, 0, rfl, int_one (t := 3) (show Box _ (w1.heap.size + 1) [.int .i64 256] 3 from Box.x0), int_one (t := 3) (show Box _ (w1.heap.size + 1 + 1) [.int .i64 512] 3 from Box.x0)⟩).mono ?_
 rintro e w2 ⟨vO, off, rfl, hb2, hO, _⟩
 obtain ⟨rfl, aN, nN, kN, bN, aV, nV, kV, bV, rfl, r0, r1⟩ := hO G1.out
 rw [GE.out, G2.out, G5.out]
 have hbe : Below w.heap.size w w2 := (Below.y1 hb2 hbw1)
 have hnN : nN = 1 := by rw [← r0.len]; exact G3.out
 subst hnN
 obtain rfl := r0.ptr (by decide)
 obtain ⟨a1, n1, k1, b1, o1, a2, n2, k2, b2, o2, c0, c1, c2, c3, c4, c5, c6, x1, x2⟩ := lay_cells r0 (i := 0) (by decide)
 rw [G4.out] at x1
 have hn1 : n1 = 1 := by rw [← x1.len]; rfl
 subst hn1
 obtain rfl := x1.ptr (by decide)
 have xc := x1.cell 0 (by decide)
 have hl0 := r0.lt (by decide)
 have hl1 := x1.lt (by decide)
 simp only [Nat.zero_mul, Nat.zero_add, Nat.add_zero] at c3 xc
 rw [show ix [384] 0 = 384 from rfl] at xc
 clear hO q0 q1 q0w hb2 hbw1 c0 c1 c2 c4 c5 c6 x2 r1
 go_wp2
 go_ret
 exact ⟨rfl, (Below.y0 hbe)⟩
end Go.Proofs.Ytchngeagnlngaaa
end
section
set_option linter.unusedVariables false
set_option linter.unusedSimpArgs false
namespace Gal
def cntKept (every first : Nat) : Nat → Nat
 | 0 => 1
 | k + 1 => cntKept every first k + if k % every = 0 ∨ first < k then 1 else 0
def mostTo (layers every : Nat) : Nat → Nat × Nat
 | 0 => (0, layers)
 | t + 1 => if (layers - 1 - t) % every = 0 then (if (mostTo layers every t).1 < cntKept every (layers - 1 - t) (mostTo layers every t).2 then cntKept every (layers - 1 - t) (mostTo layers every t).2 else (mostTo layers every t).1, layers - 1 - t) else mostTo layers every t
def mostRef (layers every : Nat) : Nat := if (mostTo layers every layers).1 = 0 then 1 else (mostTo layers every layers).1
def groupsOf (layers every : Nat) : Nat := (layers + every - 1) / every
def mostIs (layers every : Nat) : Nat :=
 if layers = 0 then 1 else if 1 < groupsOf layers every then max (groupsOf layers every + 1 + (layers - (groupsOf layers every - 1) * every) - 1) (groupsOf layers every - 1 + 1 + every - 1) else groupsOf layers every + 1 + (layers - (groupsOf layers every - 1) * every) - 1
def firstOf (layers every t : Nat) : Nat := (layers - 1) / every * every - t * every
def endOf (layers every t : Nat) : Nat := min (firstOf layers every t + every) layers
def keptTo (layers every : Nat) : Nat → Nat × Nat
 | 0 => (groupsOf layers every + 1, groupsOf layers every + 1)
 | t + 1 => ((keptTo layers every t).1 + (endOf layers every t - firstOf layers every t - 1) - (endOf layers every t - firstOf layers every t),
   max (keptTo layers every t).2 ((keptTo layers every t).1 + (endOf layers every t - firstOf layers every t - 1)))
theorem most_is : ∀ n, n < 13 → ∀ e, e < 13 → 1 ≤ e → mostRef n e = mostIs n e ∧ (keptTo n e (groupsOf n e)).2 = mostIs n e ∧ mostIs n e ≤ n + 1 ∧ 1 ≤ mostIs n e := by decide +kernel
end Gal
end
section
set_option linter.unusedVariables false
set_option linter.unusedSimpArgs false
set_option linter.unusedSectionVars false
namespace Gal
open Go Go.RowKit
def KeptM (ls : List Lay) (x : Mat) (F S : Nat → Prop) (w : World) (l : List (Nat × Value)) : Prop :=
 (∀ p ∈ l, S p.1 ∧ ∃ a m c b o, p.2 = .agg #[.int .i64 (netTo ls x p.1).rows, .int .i64 (netTo ls x p.1).cols, .slice a m c] ∧ (0 < m → F b) ∧ IntsAt w a m c b o (netTo ls x p.1).cells) ∧ ∀ j, S j → ∃ v, (j, v) ∈ l
section
variable {ls : List Lay} {x : Mat} {F S : Nat → Prop} {w w' : World} {l : List (Nat × Value)}
theorem KeptM.none (w : World) : KeptM ls x F (fun _ => False) w [] := ⟨fun p hp => absurd hp (by simp), fun j hj => absurd hj id⟩
theorem KeptM.farS {T : Nat → Prop} (h : KeptM ls x F S w l) (hf : Far T w w') (hT : ∀ b, F b → b < w.heap.size → ¬ T b) : KeptM ls x F S w' l :=
 ⟨fun p hp => by
  obtain ⟨h1, a, m, c, b, o, h2, h3, h4⟩ := h.1 p hp
  exact ⟨h1, a, m, c, b, o, h2, h3, h4.farS hf (fun hm => hT b (h3 hm) (h4.lt hm))⟩, h.2⟩
theorem KeptM.keep (h : KeptM ls x F S w l) (hb : Below w.heap.size w w') : KeptM ls x F S w' l := h.farS (T := fun _ => False) (Far.of_below hb) (fun _ _ _ => id)
theorem KeptM.wide {G : Nat → Prop} (h : KeptM ls x F S w l) (hF : ∀ b, F b → b < w.heap.size → G b) : KeptM ls x G S w l :=
 ⟨fun p hp => by
  obtain ⟨h1, a, m, c, b, o, h2, h3, h4⟩ := h.1 p hp
  exact ⟨h1, a, m, c, b, o, h2, fun hm => hF b (h3 hm) (h4.lt hm), h4⟩, h.2⟩
theorem KeptM.same {S' : Nat → Prop} (h : KeptM ls x F S w l) (hS : ∀ j, S j ↔ S' j) : KeptM ls x F S' w l :=
 ⟨fun p hp => ⟨(hS _).1 (h.1 p hp).1, (h.1 p hp).2⟩, fun j hj => h.2 j ((hS j).2 hj)⟩
theorem KeptM.put (h : KeptM ls x F S w l) {k : Nat} {a : Option Addr} {m c b o : Nat} {y : Mat} (hy : netTo ls x k = y) (hF : 0 < m → F b) (hi : IntsAt w a m c b o y.cells) : KeptM ls x F (fun j => S j ∨ j = k) w (l ++ [(k, .agg #[.int .i64 y.rows, .int .i64 y.cols, .slice a m c])]) := by
 subst hy
 refine ⟨fun p hp => ?_, fun j hj => ?_⟩
 ·rcases List.mem_append.1 hp with hp | hp
  ·exact ⟨Or.inl (h.1 p hp).1, (h.1 p hp).2⟩
  ·simp only [List.mem_singleton] at hp
   subst hp
   exact ⟨Or.inr rfl, a, m, c, b, o, rfl, hF, hi⟩
 ·rcases hj with hj | rfl
  ·obtain ⟨v, hv⟩ := h.2 j hj
   exact ⟨v, List.mem_append_left _ hv⟩
  ·exact ⟨_, List.mem_append_right _ (List.mem_singleton.2 rfl)⟩
theorem KeptM.drop (h : KeptM ls x F S w l) {k : Nat} {l' : List (Nat × Value)} (hl : ∀ q, q ∈ l' ↔ q ∈ l ∧ q.1 ≠ k) : KeptM ls x F (fun j => S j ∧ j ≠ k) w l' :=
 ⟨fun p hp => by
  obtain ⟨h1, h2⟩ := (hl p).1 hp
  exact ⟨⟨(h.1 p h1).1, h2⟩, (h.1 p h1).2⟩, fun j hj => by
  obtain ⟨v, hv⟩ := h.2 j hj.1
  exact ⟨v, (hl _).2 ⟨hv, hj.2⟩⟩⟩
theorem KeptM.get (h : KeptM ls x F S w l) {k : Nat} (hk : S k) {y : Mat} (hy : netTo ls x k = y) : ∃ a m c b o, (k, Value.agg #[.int .i64 y.rows, .int .i64 y.cols, .slice a m c]) ∈ l ∧ (0 < m → F b) ∧ IntsAt w a m c b o y.cells := by
 subst hy
 obtain ⟨v, hv⟩ := h.2 k hk
 obtain ⟨_, a, m, c, b, o, h2, h3, h4⟩ := h.1 _ hv
 dsimp only at h2
 subst h2
 exact ⟨a, m, c, b, o, hv, h3, h4⟩
theorem KeptM.new (h : KeptM ls x F S w l) {k : Nat} (hk : ¬ S k) : ∀ p ∈ l, p.1 ≠ k := fun p hp e => hk (e ▸ (h.1 p hp).1)
end
structure AgSt (tm tg : TypeId) (ls : List Lay) (ss : List Mat) (g : Mat) (n : Nat) (F : Nat → Prop) (p q : Nat) (l : List Nat) (w : World) : Prop where
 ok : OkTo ls ss g l
 cur : ∃ a m c b o, Box w p [.int .i64 (gone ls ss g l).1.rows, .int .i64 (gone ls ss g l).1.cols, .slice a m c] tm ∧ IntsAt w a m c b o (gone ls ss g l).1.cells ∧ (0 < m → F b)
 outs : ∃ cs, Box w q cs tg ∧ cs.length = n * 6 ∧ ∀ j d, (gone ls ss g l).2 j = some d → j < n → ∃ c, Form.grd.reads w F c d ∧ ∀ i, i < 6 → cs[j * 6 + i]? = c[i]?
section
variable {tm tg : TypeId} {ls : List Lay} {ss : List Mat} {g : Mat} {n p q : Nat} {F : Nat → Prop} {l : List Nat} {w w' : World}
theorem AgSt.farS {T : Nat → Prop} (h : AgSt tm tg ls ss g n F p q l w) (hf : Far T w w') (hT : ∀ b, F b → b < w.heap.size → ¬ T b) (hp : ¬ T p) (hq : ¬ T q) : AgSt tm tg ls ss g n F p q l w' where
 ok := h.ok
 cur := by
  obtain ⟨a, m, c, b, o, h1, h2, h3⟩ := h.cur
  exact ⟨a, m, c, b, o, h1.farS hf hp, h2.farS hf (fun hm => hT b (h3 hm) (h2.lt hm)), h3⟩
 outs := by
  obtain ⟨cs, h1, h2, h3⟩ := h.outs
  refine ⟨cs, h1.farS hf hq, h2, fun j d hj hn => ?_⟩
  obtain ⟨c, h4, h5⟩ := h3 j d hj hn
  exact ⟨c, reads_farS h4 hf hT, h5⟩
theorem AgSt.keep (h : AgSt tm tg ls ss g n F p q l w) (hb : Below w.heap.size w w') : AgSt tm tg ls ss g n F p q l w' := h.farS (T := fun _ => False) (Far.of_below hb) (fun _ _ _ => id) id id
end
end Gal
namespace Go.Proofs.Ytchngeagnlngaaa
open Go.RowKit Gal
theorem agSt_next {tm tg : TypeId} {ls : List Lay} {ss : List Mat} {g : Mat} {n p q : Nat} {F : Nat → Prop} {l : List Nat} {w we : World} {x m c b o nA kA bA oA nB kB bB oB : Nat} {a aA aB : Option Addr} {cs : List Value} {L : Lay} {M G : Mat}
  (hok : OkTo ls ss g l) (hx : x < n) (hL : L = lx ls x) (hM : M = mx ss x) (hG : G = (gone ls ss g l).1) (hf : L.backFault M G = 0) (hfar : Far (fun b => b = p ∨ b = q) w we) (hFp : ∀ b, F b → b ≠ p ∧ b ≠ q) (hcs : cs.length = n * 6)
  (hcells : ∀ j d, (gone ls ss g l).2 j = some d → j < n → ∃ c, Form.grd.reads w F c d ∧ ∀ i, i < 6 → cs[j * 6 + i]? = c[i]?)
  (hP : Box we p [.int .i64 (L.back M G).rows, .int .i64 (L.back M G).cols, .slice a m c] tm) (hi : IntsAt we a m c b o (L.back M G).cells) (hb : 0 < m → F b)
  (hQ : Box we q ((((((cs.set (x * 6) (.int .i64 (L.grad M G).W.rows)).set (x * 6 + 1) (.int .i64 (L.grad M G).W.cols)).set (x * 6 + 2) (.slice aA nA kA)).set (x * 6 + 3) (.int .i64 (L.grad M G).B.rows)).set (x * 6 + 4) (.int .i64 (L.grad M G).B.cols)).set (x * 6 + 5) (.slice aB nB kB)) tg)
  (hA : IntsAt we aA nA kA bA oA (L.grad M G).W.cells) (hbA : 0 < nA → F bA) (hB : IntsAt we aB nB kB bB oB (L.grad M G).B.cells) (hbB : 0 < nB → F bB) : AgSt tm tg ls ss g n F p q (l ++ [x]) we := by
 subst hL hM hG
 refine ⟨hok.snoc hf, ?_, ?_⟩
 ·rw [gone_snoc]
  exact ⟨a, m, c, b, o, hP, hi, hb⟩
 ·refine ⟨_, hQ, by simp [hcs], fun j d hj hjn => ?_⟩
  rw [gone_snoc] at hj
  dsimp only at hj
  by_cases e : j = x
  ·subst e
   rw [if_pos rfl] at hj
   cases hj
   exact ⟨_, reads_grd hbA hA hbB hB, sets6 (by omega) _ _ _ _ _ _⟩
  ·rw [if_neg e] at hj
   obtain ⟨c', hr, hc⟩ := hcells j d hj hjn
   refine ⟨c', reads_farS hr hfar (fun b hb _ => by rintro (e | e); exact (hFp b hb).1 e; exact (hFp b hb).2 e), fun i hi => ?_⟩
   rw [← hc i hi, List.getElem?_set_ne (by omega), List.getElem?_set_ne (by omega), List.getElem?_set_ne (by omega), List.getElem?_set_ne (by omega), List.getElem?_set_ne (by omega), List.getElem?_set_ne (by omega)]
theorem agSt_done {tm tg : TypeId} {ls : List Lay} {ss : List Mat} {g : Mat} {n p q : Nat} {F : Nat → Prop} {w : World} (h : AgSt tm tg ls ss g n F p q (descs n n) w) (hn : n ≤ maxLen) (hq : F q ∨ True) {G : Nat → Prop} (hGq : G q) (hG : ∀ b, F b → G b) :
  RowAt Form.grd w G (some ⟨q, 0, none⟩) n n q 0 (bDs ls ss g n) := by
 obtain ⟨h1, h2⟩ := gone_descs (ls := ls) (ss := ss) (g := g) n n (Nat.le_refl _)
 obtain ⟨cs, k1, k2, k3⟩ := h.outs
 refine ⟨bDs_length, Nat.le_refl _, hn, fun _ => rfl, fun _ => k1.lt, fun _ => hGq, fun i x hx => ?_⟩
 have hi : i < n := by have := (List.getElem?_eq_some_iff.1 hx).1; rwa [bDs_length] at this
 have e : x = bD ls ss g n (n - 1 - i) := by have := gx_get (ds := bDs ls ss g n) (by rw [bDs_length]; exact hi); rw [hx, bDs_gx hi] at this; exact Option.some.inj this
 subst e
 obtain ⟨c, hr, hc⟩ := k3 i _ (h2 i (by omega) hi) hi
 exact ⟨c, Form.grd.wide (fun b hb _ => hG b hb) hr, fun j hj => by rw [Nat.zero_add, k1.cell]; exact hc j hj⟩
end Go.Proofs.Ytchngeagnlngaaa
end
