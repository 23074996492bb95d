/- Texts joined: Back3, Loss2. -/
import Derived.Test.YtchngeagnlngaaaJ37
import Derived.Test.YtchngeagnlngaaaJ34
import Derived.Test.YtchngeagnlngaaaJ03
import Derived.Test.YtchngeagnlngaaaJ11
import Derived.Test.YtchngeagnlngaaaJ02
import Derived.Maps.AppendAt
section
set_option linter.unusedVariables false
set_option linter.unusedSimpArgs false
set_option linter.unusedSectionVars false
namespace Go.Proofs.Ytchngeagnlngaaa
open Go.RowKit Go.Shelf Gal
set_option maxRecDepth 100000
set_option maxHeartbeats 2000000
theorem netBack_any (ls : List Lay) (ss : List Mat) (g : Mat) (F G : Nat → Prop) (a0 a1 : Option Addr) (n n1 k0 k1 b0 b1 o0 o1 : Nat) (vg : Value) (w : World) (h0 : RowAt Form.lay w F a0 n k0 b0 o0 ls) (h1 : RowAt Form.mat w G a1 n1 k1 b1 o1 ss) (hg : MatAt w vg g)
  (hgl : g.cells.length * 8 ≤ 140737488355328) : Calls Try.prog 29 #[.slice a0 n k0, .slice a1 n1 k1, vg] w (BackEnd w ls ss g n (netBackFault ls ss g)) := by
 have hl0 := h0.len
 have hl1 := h1.len
 have hm0 := h0.max
 have hm1 := h1.max
 unfold maxLen at hm0 hm1
 by_cases h12 : 12 < n
 ·have hF : netBackFault ls ss g = 3 := by unfold netBackFault; rw [if_pos (by omega)]
  rw [hF]
  obtain ⟨ag, ng, kg, bg, og, rfl, xg⟩ := hg
  have e1 : ((n : Int) > 12) = True := by simp; omega
  clear hF
  go_enter Try.func29, Try.ntmps29
  go_wp2
  exact bodyPost_ret (v := .tuple #[.agg #[.int .i64 0, .int .i64 0, .slice none 0 0], .slice none 0 0, .iface 62 (.int .i64 3)]) (by simp [results, Try.results29, go_sem]) rfl ⟨_, _, rfl, Below.x0, fun h => absurd h (by decide), fun _ => ⟨rfl, rfl⟩⟩
 ·by_cases hn1 : n1 = n + 1
  ·by_cases hz : n = 0 ∧ g.fault ≠ 0
   ·obtain ⟨rfl, hf⟩ := hz
    have hF : netBackFault ls ss g = g.fault := by unfold netBackFault; rw [if_neg (by omega), if_neg (by omega), if_pos hl0]
    rw [hF]
    obtain ⟨ag, ng, kg, bg, og, rfl, xg⟩ := hg
    have HE := Lib.hid (show errV (matFault g.rows g.cols g.cells) = .iface 62 (.int .i64 g.fault) from errV_err hf)
    have HF := Lib.hid hf
    obtain rfl : n1 = 1 := by omega
    clear hF hf hl0 hl1 hm0 hm1 h12 hgl hn1
    go_enter Try.func29, Try.ntmps29
    go_wp2_with fail
    refine (matCheck_any g.rows g.cols ag ng kg bg og g.cells _ xg.k).mono ?_
    rw [HE.out]
    rintro e w1 ⟨rfl, hb1⟩
    have P6 := ((show Box _ (w.heap.size + 1 + 1) [.int .i64 0, .int .i64 0, .slice none 0 0] 28 from Box.x0)).keep hb1
    have P6c := P6.cell
    have P6f := P6.thawed
    have P6z := P6.lt
    have P6k := lt_add P6z
    have P7 := ((show Box _ (w.heap.size + 1 + 1 + 1) [.slice none 0 0] 23 from Box.x0)).keep hb1
    have P7c := P7.cell
    have P7f := P7.thawed
    have P7z := P7.lt
    have P7k := lt_add P7z
    have P8 := ((show Box _ (w.heap.size + 1 + 1 + 1 + 1) [.nilIface] 37 from Box.x0)).keep hb1
    have P8c := P8.cell
    have P8f := P8.thawed
    have P8z := P8.lt
    have P8k := lt_add P8z
    have hbe : Below w.heap.size w w1 := (Below.x1 hb1)
    go_wp2
    exact bodyPost_ret (v := .tuple #[.agg #[.int .i64 0, .int .i64 0, .slice none 0 0], .slice none 0 0, .iface 62 (.int .i64 g.fault)]) (by simp [results, Try.results29, go_sem, P6c, P7c, P8c]) rfl ⟨_, _, by rw [errV_err HF.out], (Below.y0 hbe), fun h => absurd h HF.out, fun _ => ⟨rfl, rfl⟩⟩
   ·have hF : netBackFault ls ss g = bF ls ss g n n := by
     unfold netBackFault
     rw [if_neg (by omega), if_neg (by omega)]
     by_cases h : n = 0
     ·rw [if_pos (by omega)]
      subst h
      exact Classical.not_not.1 (fun h => hz ⟨rfl, h⟩)
     ·rw [if_neg (by omega), hl0]
    rw [hF]
    exact netBack_walk ls ss g F G a0 a1 n n1 k0 k1 b0 b1 o0 o1 vg w h0 h1 hg hgl (by omega) hn1 (fun h => Classical.not_not.1 (fun h' => hz ⟨h, h'⟩))
  ·have hF : netBackFault ls ss g = 2 := by unfold netBackFault; rw [if_neg (by omega), if_pos (by omega)]
   rw [hF]
   obtain ⟨ag, ng, kg, bg, og, rfl, xg⟩ := hg
   have e1 : ((n : Int) > 12) = False := by simp; omega
   have e2 : ((n1 : Int) != wrap64 ((n : Int) + 1)) = true := by simp [wrap64]; omega
   have e3 : ((n1 : Int) != (n : Int) + 1) = true := by simp; omega
   clear hF
   go_enter Try.func29, Try.ntmps29
   go_wp2
   exact bodyPost_ret (v := .tuple #[.agg #[.int .i64 0, .int .i64 0, .slice none 0 0], .slice none 0 0, .iface 62 (.int .i64 2)]) (by simp [results, Try.results29, go_sem]) rfl ⟨_, _, rfl, Below.x0, fun h => absurd h (by decide), fun _ => ⟨rfl, rfl⟩⟩
end Go.Proofs.Ytchngeagnlngaaa
end
section
set_option linter.unusedVariables false
set_option linter.unusedSimpArgs false
namespace Go.Proofs.Ytchngeagnlngaaa
open Go.RowKit Go.Shelf Gal
attribute [local go_sem] Oper.semAt_some
theorem boxRow_own {β : Type} (n₀ B C : Nat) (t e u : TypeId) (hte : e ≠ t) (cs : Value → List Value) (ds : List Value) (k : β → Nat) (f : β → List Value) :
  Own (fun s W => (∃ v, Box W B (cs v) t ∧ W.ownsRow n₀ e 1 v (k s) (f s)) ∧ Box W C ds u) := by
 rintro s X Y row ⟨⟨v, hv, hr⟩, hC⟩ hg hrow
 have hno : ∀ {b : Nat} {l : List Value} {t : TypeId}, Box X b l t → some b ≠ row := fun {b l t} hb e' => by
  obtain ⟨o, ho, hc⟩ := hrow b e'.symm
  unfold Box at hb; rw [hb] at ho; cases ho; cases hc
 refine ⟨⟨v, hv.grown hg (hno hv), hr.kept hg ?_⟩, hC.grown hg (hno hC)⟩
 rcases hr.2 with ⟨rfl, _⟩ | ⟨g, cap, cur, rfl, _, hgb, _⟩
 ·exact .inl rfl
 ·refine .inr fun e' => ?_
  obtain ⟨o, ho, hc⟩ := hrow g (by simpa [Value.ownBlock] using e'.symm)
  rw [hgb] at ho; cases ho; cases hc
theorem own_cells {w : World} {base e size n : Nat} {v : Value} {xs : List Value} (h : w.ownsRow base e size v n xs) (o' : Obj) : ∀ (j : Nat) (o : Obj), v.ownBlock = some j → (w.alloc o').heap[j]? = some o → o.isCells = true := by
 intro j o hj ho
 rcases h.2 with ⟨rfl, _⟩ | ⟨g, cap, cur, rfl, _, hg, _⟩
 ·simp [Value.ownBlock] at hj
 ·simp [Value.ownBlock] at hj
  subst hj
  have hlt : g < w.heap.size := by
   rcases Nat.lt_or_ge g w.heap.size with h1 | h1
   ·exact h1
   ·rw [Array.getElem?_eq_none h1] at hg; cases hg
  rw [Below.heap_alloc _ _ _ hlt, hg] at ho
  cases ho
  rfl
set_option maxRecDepth 100000 in
set_option maxHeartbeats 2000000 in
theorem lossBack_ok (ma mb : Mat) (va vb : Value) (w : World) (ha : MatAt w va ma) (hb : MatAt w vb mb) (hf : lossFault ma mb = 0) :
  Calls Try.prog 28 #[va, vb] w fun e w' => ∃ v, e = .returned (.tuple #[v, .nilIface]) ∧ MatNew w.heap.size w' v (lossBack ma mb) ∧ Below w.heap.size w w' := by
 obtain ⟨a0, n0, k0, b0, o0, rfl, h0⟩ := ha
 obtain ⟨a1, n1, k1, b1, o1, rfl, h1⟩ := hb
 obtain ⟨fa, fb, hr, hc⟩ := lossFault_ok hf
 have hbnd : n0 ≤ 288 := by
  have q1 := h0.len
  have e4 := (fault_bd fa).2.2
  omega
 have hn : n0 = n1 := by
  obtain ⟨R, C, e1, e2, _, _, e3, _⟩ := matFault_ok fa
  obtain ⟨R', C', e1', e2', _, _, e3', _⟩ := matFault_ok fb
  have q1 := h0.len
  have q2 := h1.len
  have r1 : R = R' := by omega
  have r2 : C = C' := by omega
  subst r1 r2
  omega
 subst hn
 have HF := Lib.hid hf
 clear hf fa fb hr hc
 refine (callsIn_wide (n := 6)).1 ?_
 refine callsIn_of_wp_marks Try.func28 rfl trivial ?_ rfl
 simp only [Try.ntmps28, List.size_toArray, List.length_cons, List.length_nil, Nat.reduceAdd, Nat.reduceSub, Array.replicate_succ, Array.replicate_zero, List.push_toArray, List.append_toArray, List.nil_append, List.cons_append]
 gi_wp2_with fail
 refine ⟨trivial, ?_⟩
 refine (callsIn_wide.2 (apart_ok ma mb _ _ _ _ _ _ _ _ _ _ _ (h0.alloc _ |>.alloc _ |>.alloc _) (h1.alloc _ |>.alloc _ |>.alloc _) HF.out)).mono ?_
 rintro e w2 ⟨rfl, Ba, Bb, hb2⟩
 have G0 := (((Box.new w _ 28).alloc _).alloc _).keep hb2
 have G0c := G0.cell
 have G0f := G0.thawed
 have G0z := G0.lt
 have G0k := lt_add G0z
 have G4 := (Box.new' _ (w.heap.size + 1 + 1) _ 28 (by simp)).keep hb2
 have G4c := G4.cell
 have G4f := G4.thawed
 have G4z := G4.lt
 have G4k := lt_add G4z
 simp only [World.size_alloc] at Ba Bb
 have hk2 : Below w.heap.size w w2 := (Below.x1 hb2)
 have x0 := h0.keep hk2
 have x1 := h1.keep hk2
 have z2 := Bb.lt
 gi_wp2
 have hS : Box (w2.alloc (.cells #[.int .i64 ma.rows, .int .i64 ma.cols, .slice none 0 0] 28)) w2.heap.size [.int .i64 ma.rows, .int .i64 ma.cols, .slice none 0 0] 28 := Box.new w2 _ _
 have hz3 : w.heap.size + 1 + 1 + 1 + 1 < w2.heap.size := z2
 obtain ⟨i0, hi, hi0, hi1, hi2⟩ := info_parts info_int
 have hln := h0.len
 have hsz : w.heap.size ≤ w2.heap.size := hk2.size
 refine wpIn_rangeFunc_ownF rfl (by decide) (gf := 107) (lb := #[.pointer (some ⟨w.heap.size + 1 + 1 + 1, 0, none⟩), .pointer (some ⟨w.heap.size + 1 + 1 + 1 + 1, 0, none⟩)]) rfl trivial (enters_of Try.func107 (by kernel_rfl) rfl)
  (apart1_stops 5 (by decide) (w.heap.size + 1 + 1 + 1) (w.heap.size + 1 + 1 + 1 + 1) w2.heap.size n0 _ _ _ _ a0 a1 k0 k1 b0 b1 o0 o1 ma.cells mb.cells (w2.alloc (.cells #[.int .i64 ma.rows, .int .i64 ma.cols, .slice none 0 0] 28)) (by simp) (Ba.alloc _) (by omega) (Bb.alloc _) (by omega) (x0.alloc _) x0.lt (x1.alloc _) x1.lt)
  belowK_t (belowK_b (by simp)) (Below.refl _ _) (fun _ => rfl)
  (fun pre W => ((∃ v, Box W w2.heap.size [.int .i64 ma.rows, .int .i64 ma.cols, v] 28 ∧ W.ownsRow w2.heap.size 3 1 v pre.length (pre.map (Value.int .i64))) ∧ Box W (w.heap.size + 1 + 1) [.int .i64 0, .int .i64 0, .slice none 0 0] 28) ∧ Below w.heap.size w W)
  (fun _ _ _ => False)
  (OwnFrom.and (Own.from (boxRow_own w2.heap.size w2.heap.size (w.heap.size + 1 + 1) 28 3 28 (by decide) (fun v => [.int .i64 ma.rows, .int .i64 ma.cols, v]) [.int .i64 0, .int .i64 0, .slice none 0 0] (fun pre : List Int => pre.length) (fun pre => pre.map (Value.int .i64))) _) (ownFrom_below (by first | omega | (simp; omega) | simp) (by first | omega | (simp; omega) | simp)))
  (fun _ _ _ _ _ hs _ _ => hs)
  ⟨⟨⟨_, hS, World.ownsRow_nil _ _ _ _⟩, G4.alloc _⟩, hk2.al _⟩
  (fun x => { tmps := #[.agg #[.int .i64 ma.rows, .int .i64 ma.cols, .slice a0 n0 k0], .agg #[.int .i64 mb.rows, .int .i64 mb.cols, .slice a1 n0 k1], .pointer (some ⟨w.heap.size, 0, none⟩), .pointer (some ⟨w.heap.size + 1, 0, none⟩), .pointer (some ⟨w.heap.size + 1 + 1, 0, none⟩), .nilIface,
   .func (.func 107) #[] #[.pointer (some ⟨w.heap.size + 1 + 1 + 1, 0, none⟩), .pointer (some ⟨w.heap.size + 1 + 1 + 1 + 1, 0, none⟩)], .nilIface, .pointer (some ⟨w2.heap.size, 0, none⟩), .int .i64 x,
   .tuple #[.func (.func 107) #[] #[.pointer (some ⟨w.heap.size + 1 + 1 + 1, 0, none⟩), .pointer (some ⟨w.heap.size + 1 + 1 + 1 + 1, 0, none⟩)], .nilIface], .agg #[.int .i64 ma.rows, .int .i64 ma.cols, .slice a0 n0 k0], .agg #[.int .i64 mb.rows, .int .i64 mb.cols, .slice a1 n0 k1], .tuple #[.func (.func 107) #[] #[.pointer (some ⟨w.heap.size + 1 + 1 + 1, 0, none⟩), .pointer (some ⟨w.heap.size + 1 + 1 + 1 + 1, 0, none⟩)], .nilIface], .func (.func 107) #[] #[.pointer (some ⟨w.heap.size + 1 + 1 + 1, 0, none⟩), .pointer (some ⟨w.heap.size + 1 + 1 + 1 + 1, 0, none⟩)], .nilIface, .nilIface, .bool false, undef, undef,
   .pointer (some ⟨w.heap.size, 0, none⟩), .int .i64 ma.rows, .pointer (some ⟨w.heap.size, 1, none⟩), .int .i64 ma.cols, .agg #[.int .i64 ma.rows, .int .i64 ma.cols, .slice none 0 0],
   .func (.func 107) #[] #[.pointer (some ⟨w.heap.size + 1 + 1 + 1, 0, none⟩), .pointer (some ⟨w.heap.size + 1 + 1 + 1 + 1, 0, none⟩)], .int .i64 x, undef, undef, undef, undef, undef, undef, undef], defers := [] }) ?assign ?body ?done ?stop
 case assign =>
  intro l x W K hK
  gi_wp2
  exact hK
 case body =>
  rintro l pre x W ⟨⟨⟨v, hv, hrow⟩, hG⟩, hB⟩ hlt
  have hc := hv.cell 2
  have hf := hv.thawed 2
  have hWs : w2.heap.size < W.heap.size := hv.lt
  have hnev := own_ne hrow hv (by decide)
  have hneG := own_ne hrow hG (by decide)
  have e1 : pre.length + 1 ≤ maxLen := by unfold maxLen; omega
  have e2 : (pre.length + 1) * 8 ≤ 140737488355328 := by omega
  have e3 : ∀ o, w2.heap.size ≤ (W.alloc o).heap.size := fun o => by simp; omega
  have e4 : ∀ u ∈ [Value.int .i64 x], u.oneCell' = true := by simp [Value.oneCell']
  gi_wp2_with (gi_at_builtin; (refine wpListIn_append_own _ rfl _ _ 26 rfl w2.heap.size 3 i0 (.int .i64 0) 1 8 Try.underlying26 hi hi0 hi1 hi2 rfl (by decide) _ pre.length (pre.map (Value.int .i64)) rfl (hrow.alloc _) ⟨W.heap.size, 0, none⟩ 1 1 [.int .i64 x] rfl rfl (cell_one_new W (.int .i64 x) 3) e4 e1 e2 (e3 _) ?_; intro v' w1 hown' hgrow _; obtain ⟨g', cap', rfl⟩ := ownsRow_succ hown'; have hv1 := (hv.alloc _).grown hgrow (fun e => hnev e.symm); have hG1 := (hG.alloc _).grown hgrow (fun e => hneG e.symm); have hc1 := hv1.cell 2; have hf1 := hv1.thawed 2))
  have hne := own_ne hown' hv1 (by decide)
  have hb1 : Below w2.heap.size W w1 := Below.grown ((Below.refl _ W).alloc (by omega) _) hgrow (by simp; omega) fun k hk => (hrow.lt k hk).1
  refine ⟨((KeepsOthers.alloc W _).trans (KeepsOthers.of_grownBy hgrow (own_cells hrow _))).trans (KeepsOthers.setCell _ _ _), hb1.setCell (p := ⟨w2.heap.size, 2, none⟩) (Nat.le_refl _) _, ⟨⟨_, hv1.set 2 _, ?_⟩, hG1.far (by dsimp only; omega) _⟩, (hB.trans (hb1.mono hsz)).setCell (p := ⟨w2.heap.size, 2, none⟩) (by dsimp only; omega) _⟩
  have := own_set hown' (a := ⟨w2.heap.size, 2, none⟩) hne
  simpa using this _
 case done =>
  rintro D l W hD rfl ⟨⟨⟨v, hv, hrow⟩, hG⟩, hB⟩ hK
  obtain ⟨a, cap, b, rfl, hbb, hia⟩ := IntsAt.of_own hrow
  have O := hv
  have Oc := O.cell
  have Of := O.thawed
  have Oz := O.lt
  have Ok := lt_add Oz
  have G := hG
  have Gc := G.cell
  have Gf := G.thawed
  have Gz := G.lt
  have Gk := lt_add Gz
  gi_wp2
  have hK' := (((KeepsOthers.setCell W ⟨w.heap.size + 1 + 1, 0, none⟩ (.int .i64 ma.rows)).trans (KeepsOthers.setCell _ ⟨w.heap.size + 1 + 1, 1, none⟩ (.int .i64 ma.cols))).trans (KeepsOthers.setCell _ ⟨w.heap.size + 1 + 1, 2, none⟩ (.slice a (offs ma.cells mb.cells n0).length cap))).same D _ hK rfl
  have G3 : Box (((W.setCell ⟨w.heap.size + 1 + 1, 0, none⟩ (.int .i64 ma.rows)).setCell ⟨w.heap.size + 1 + 1, 1, none⟩ (.int .i64 ma.cols)).setCell ⟨w.heap.size + 1 + 1, 2, none⟩ (.slice a (offs ma.cells mb.cells n0).length cap)) (w.heap.size + 1 + 1) [.int .i64 ma.rows, .int .i64 ma.cols, .slice a (offs ma.cells mb.cells n0).length cap] 28 := ((G.set 0 _).set 1 _).set 2 _
  have hi3 := hia.set3 (B := w.heap.size + 1 + 1) (fun h => by have := hbb h; omega) (.int .i64 ma.rows) (.int .i64 ma.cols) (.slice a (offs ma.cells mb.cells n0).length cap)
  have hB3 := ((hB.setCell (p := ⟨w.heap.size + 1 + 1, 0, none⟩) (by dsimp only; omega) (.int .i64 ma.rows)).setCell (p := ⟨w.heap.size + 1 + 1, 1, none⟩) (by dsimp only; omega) (.int .i64 ma.cols)).setCell (p := ⟨w.heap.size + 1 + 1, 2, none⟩) (by dsimp only; omega) (.slice a (offs ma.cells mb.cells n0).length cap)
  generalize ((W.setCell ⟨w.heap.size + 1 + 1, 0, none⟩ (.int .i64 ma.rows)).setCell ⟨w.heap.size + 1 + 1, 1, none⟩ (.int .i64 ma.cols)).setCell ⟨w.heap.size + 1 + 1, 2, none⟩ (.slice a (offs ma.cells mb.cells n0).length cap) = W3 at *
  have hD' : w2.heap.size + 1 ≤ D := by simpa using hD
  have G5 := G3.grown (grownBy_putObj' W3 D (.deferred none)) (fun e => by cases e; omega)
  have G5c := G5.cell
  have hbW := belowK_b (n₀ := w2.heap.size) (w := w2) (Nat.le_refl _) W3 D _ (.deferred none) (by omega) hK' rfl rfl
  have hiW : IntsAt (W3.putObj D (.deferred none)) a (offs ma.cells mb.cells n0).length cap b 0 (offs ma.cells mb.cells n0) := by
   refine ⟨hi3.len, hi3.le, hi3.maxc, hi3.ptr, fun h => Nat.lt_of_lt_of_le (hi3.lt h) (by simp [World.putObj]), fun i hi' => ?_⟩
   refine (World.cell?_of_block (a := ⟨b, 0 + i, none⟩) ((grownBy_putObj' W3 D (.deferred none)).block b (hi3.lt (by omega)) ?_)).trans (hi3.cell i hi')
   intro e
   cases e
   have := hi3.cell i hi'
   simp [World.cell?, hK'] at this
  refine ⟨by simp, .inl ⟨_, _, rfl, run_takeDeferred hK', ?_⟩⟩
  refine ⟨.tuple #[.agg #[.int .i64 ma.rows, .int .i64 ma.cols, .slice a (offs ma.cells mb.cells n0).length cap], .nilIface], by simp [results, Try.results28, go_sem, G5c], ⟨_, rfl, ?_, hB3.trans (hbW.mono hsz)⟩⟩
  unfold lossBack
  rw [hln]
  exact ⟨_, _, _, b, 0, rfl, fun h => by have := hbb h; omega, hiW⟩
 case stop =>
  rintro D c pre W _ _ h _
  exact h.elim
end Go.Proofs.Ytchngeagnlngaaa
end
