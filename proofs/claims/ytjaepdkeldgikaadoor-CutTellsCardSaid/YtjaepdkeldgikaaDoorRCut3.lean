/- Contracts of the reference: BestOf. -/
import Derived.Test.YtjaepdkeldgikaaDoorRCut2
set_option linter.unusedVariables false
set_option linter.unusedSimpArgs false
set_option linter.unusedSectionVars false
namespace Gal
/-- the best cuts so far, of those that go on so -/
def accTo (c : Nat → Int) (n r : Nat) (P : Int) (k : Nat) (j : Nat) : Option (List Nat × Int) :=
  (List.range j).foldl (fun acc j => better acc ((fun q => ((k + 1 + j) :: q.1, q.2)) (refBest c n r (max P (sg c k (j + 1))) (k + 1 + j)))) none
section
variable {c : Nat → Int} {n r k j : Nat} {P : Int}
theorem accTo_succ : accTo c n r P k (j + 1) = better (accTo c n r P k j) ((k + 1 + j) :: (refBest c n r (max P (sg c k (j + 1))) (k + 1 + j)).1, (refBest c n r (max P (sg c k (j + 1))) (k + 1 + j)).2) := by
  unfold accTo
  rw [List.range_succ, List.foldl_append]
  rfl
theorem accTo_some : ∀ {j : Nat}, 0 < j → ∃ A, accTo c n r P k j = some A
  | j + 1, _ => by
    rw [accTo_succ]
    cases h : accTo c n r P k j with
    | none => exact ⟨_, rfl⟩
    | some a =>
      unfold better
      by_cases h2 : (refBest c n r (max P (sg c k (j + 1))) (k + 1 + j)).2 < a.2
      · exact ⟨_, if_pos h2⟩
      · exact ⟨_, if_neg h2⟩
theorem refBest_acc : refBest c n (r + 1) P k = (accTo c n r P k (n - k - (r + 1))).getD ([], -1) := rfl
theorem worst_snoc : ∀ (es : List Nat) (k e : Nat), worst c k (es ++ [e]) = max (worst c k es) (max (sg c ((k :: es).getLast (by simp)) (e - (k :: es).getLast (by simp))) 0)
  | [], k, e => by show max _ 0 = max 0 (max _ 0); simp; omega
  | x :: es, k, e => by
    show max _ (worst c x (es ++ [e])) = max (max _ (worst c x es)) _
    rw [worst_snoc es x e]
    simp only [List.getLast_cons_cons]
    omega
theorem chain_snoc {es : List Nat} {a k e : Nat} (h : Chain k a es) (he : k < e) : Chain e a (es ++ [e]) ∧ worst c a (es ++ [e]) = max (worst c a es) (max (sg c k (e - k)) 0) := by
  induction es generalizing a with
  | nil =>
    have hak : a = k := h
    subst hak
    exact ⟨⟨he, Nat.le_refl _, rfl⟩, by show max _ 0 = max 0 (max _ 0); simp; omega⟩
  | cons x es ih =>
    obtain ⟨h1, h2, h3⟩ := h
    obtain ⟨i1, i2⟩ := ih h3
    exact ⟨⟨h1, by omega, i1⟩, by show max _ (worst c x (es ++ [e])) = max (max _ (worst c x es)) _; rw [i2]; omega⟩
theorem refBest_nn (hc : ∀ i, 0 ≤ c i) : ∀ (r : Nat) (P : Int) (k : Nat), 0 ≤ P → k + r + 1 ≤ n → 0 ≤ (refBest c n r P k).2 := fun r P k hP hk => by
  obtain ⟨_, h2⟩ := refBest_is (c := c) (n := n) hc r P k (by omega)
  rw [h2]
  have := worst_nn hc (refBest c n r P k).1 k
  omega
end
end Gal
namespace Go.Proofs.YtjaepdkeldgikaaDoor
open Go.RowKit Gal
set_option maxRecDepth 100000
set_option maxHeartbeats 4000000
/-- the best cuts so far, as values -/
def AccV (w : World) (S : Nat) (es : List Nat) : Option (List Nat × Int) → Value → Value → Prop
  | none, v, u => v = .slice none 0 0 ∧ u = .int .i64 (-1)
  | some r, v, u => ∃ a k b, v = .slice a S k ∧ IntsAt w a S k b 0 (ints (es ++ r.1)) ∧ u = .int .i64 r.2 ∧ 0 ≤ r.2
theorem AccV.keep {w w' : World} {S : Nat} {es : List Nat} {acc : Option (List Nat × Int)} {v u : Value} (h : AccV w S es acc v u) (hb : Below w.heap.size w w') : AccV w' S es acc v u := by
  cases acc with
  | none => exact h
  | some r =>
    obtain ⟨a, k, b, h1, h2, h3⟩ := h
    exact ⟨a, k, b, h1, h2.keep hb, h3⟩
theorem own_empty (w : World) (base e : Nat) (hb : base ≤ w.heap.size) : (w.alloc (.cells #[] e)).ownsRow base e 1 (.slice (some ⟨w.heap.size, 0, none⟩) 0 0) 0 (([] : List Int).map (Value.int .i64)) := own_made w _ base e 1 #[] 0 rfl hb (Nat.zero_le _) rfl
theorem refBestOf_ok (xs : List Int) (hx : ∀ i, 0 ≤ ix xs i ∧ ix xs i ≤ 1000000) (n S : Nat) (hn : n ≤ 12) (hS6 : S ≤ 6) : ∀ (r : Nat) (es : List Nat) (k0 : Nat) (a a' : Option Addr) (m k k' b b' o o' : Nat) (w : World) (h : IntsAt w a n k b o xs) (h' : IntsAt w a' m k' b' o' (ints es)) (hS : es.length + 1 + r = S) (hch : Chain k0 0 es) (hk : k0 + r + 1 ≤ n),
    Calls Tryd.prog 27 #[.slice a n k, .int .i64 S, .slice a' m k'] w fun e w' => ∃ a1 k1 b1, e = .returned (.tuple #[.slice a1 S k1, .int .i64 (refBest (ix xs) n r (worst (ix xs) 0 es) k0).2]) ∧ IntsAt w' a1 S k1 b1 0 (ints (es ++ (refBest (ix xs) n r (worst (ix xs) 0 es) k0).1)) ∧ Below w.heap.size w w' := by
  obtain ⟨i0, hi, hz0, hz1, hz2⟩ := info_parts info_int'
  have HX := Lib.hid hx
  clear hx
  intro r
  induction r with
  | zero =>
    intro es k0 a a' m k k' b b' o o' w h h' hS hch hk
    have hl' := h'.len
    rw [ints_length] at hl'
    rw [hl'] at hS
    have hw0 := (chain_cw hch).2
    have HCH : Hid (Chain n 0 (es ++ [n]) ∧ worst (ix xs) 0 (es ++ [n]) = max (worst (ix xs) 0 es) (sg (ix xs) k0 (n - k0))) := Lib.hid (by
      obtain ⟨h1, h2⟩ := chain_snoc (c := ix xs) (e := n) hch (by omega)
      have h3 := worst_nn (fun i => (HX.out i).1) es 0
      exact ⟨h1, by omega⟩)
    have HS : Hid (m + 1 = S) := Lib.hid (by omega)
    have hS1 : m + 1 ≤ S ∧ S ≤ m + 1 := by omega
    obtain ⟨hS1, hS2⟩ := hS1
    clear hS
    have HL := Lib.hid hl'
    have hls : ((m : Int) == (S : Int) - 1) = true := by simp; omega
    have hm6 : m ≤ 6 := by omega
    by_cases hm : m = 0
    · have hm0 : ((m : Int) > 0) = False := by simp; omega
      have hm0' : (0 < m) = False := by simp; omega
      clear hch hl' hw0 hm
      go_enter Tryd.func27, Tryd.ntmps27
      go_wp2_with (at_builtin; (refine wpList_append_ints rfl (.tmp 32) (.tmp 33) 39 rfl w.heap.size 3 i0 Tryd.underlying39 hi hz0 hz1 hz2 _ 0 [] rfl (own_empty w w.heap.size 3 (Nat.le_refl _)) a' m k' b' o' (ints es) rfl (h'.alloc _) (by omega) (by simp) ?_))
      intro v1 w1 hown1 hgrow1
      have hb1 : Below w.heap.size w w1 := Below.grown (Below.al (Below.refl _ _) _) hgrow1 (by simp) (fun k hk => ((own_empty w w.heap.size 3 (Nat.le_refl _)).lt k hk).1)
      go_wp2_with (at_builtin; (refine wpList_append_ints rfl (.tmp 35) (.tmp 38) 39 rfl w.heap.size 3 i0 Tryd.underlying39 hi hz0 hz1 hz2 _ m (ints es) rfl (hown1.alloc _) _ 1 1 w1.heap.size 0 [(n : Int)] rfl (ints1 (Box.new _ _ 3)) (by omega) (by have := hb1.size; simp; omega) ?_))
      intro v2 w2 hown2 hgrow2
      have hb2 : Below w.heap.size w w2 := Below.grown (Below.al hb1 _) hgrow2 (by have := hb1.size; simp; omega) (fun k hk => (hown1.lt k hk).1)
      replace hown2 : w2.ownsRow w.heap.size 3 1 v2 (m + 1) ((ints (es ++ [n])).map (Value.int .i64)) := by rw [ints_snoc, List.map_append]; exact hown2
      obtain ⟨a2, c2, bq, rfl, hbq, hi2⟩ := IntsAt.of_own hown2
      go_wp2_with fail
      refine (refCostOf_ok xs (es ++ [n]) _ _ n (m + 1) k c2 b bq o 0 _ (h.keep hb2) hi2 HX.out hn HCH.out.1).mono ?_
      rintro e w3 ⟨a3, k3, b3, rfl, _, hi3, hb3⟩
      go_wp2_with fail
      refine (refDear_any (costsOf (ix xs) 0 (es ++ [n])) _ (m + 1) k3 b3 0 _ hi3 (fun j => (costsOf_bd HX.out hn HCH.out.1 j).1)).mono ?_
      rintro e w4 ⟨rfl, rfl⟩
      rw [← worst_dear, HCH.out.2]
      go_wp2
      go_ret2
      exact ⟨a2, c2, bq, by rw [← HS.out]; rfl, by rw [← HS.out]; exact hi2.keep hb3, (by repeat (first | fail | (with_reducible exact Below.refl _ _) | (with_reducible exact hb2) | (with_reducible refine Below.al ?_ _) | (with_reducible refine Below.drN ?_ _) | (with_reducible refine Below.drew ?_) | (with_reducible refine Below.st ?_ ?_ _; rotate_left 1; (first | (dsimp only; omega) | omega | (simp; omega) | simp)) | (with_reducible refine Below.go ?_ hb3) | exact Below.refl _ _ | exact hb2))⟩
    · obtain ⟨p, rfl⟩ : ∃ p, m = p + 1 := ⟨m - 1, by omega⟩
      obtain rfl := h'.ptr (by omega)
      have hc := h'.cell p (by omega)
      rw [ints_ix, ← cw_is es 0 p, ← hl', hw0] at hc
      clear hch hl' hw0 hm
      obtain ⟨m, hpm⟩ : ∃ m, m = p + 1 := ⟨_, rfl⟩
      rw [← hpm] at h' HS HL hS1 hS2 hls hm6 ⊢
      have hm1 : (m : Int) - 1 = (p : Int) := by omega
      have hm2 : (p : Int) < (m : Int) := by omega
      have hm3 : (0 < m) = True := by simp; omega
      clear hpm
      go_enter Tryd.func27, Tryd.ntmps27
      go_wp2_with (at_builtin; (refine wpList_append_ints rfl (.tmp 32) (.tmp 33) 39 rfl w.heap.size 3 i0 Tryd.underlying39 hi hz0 hz1 hz2 _ 0 [] rfl (own_empty w w.heap.size 3 (Nat.le_refl _)) (some ⟨b', o', none⟩) m k' b' o' (ints es) rfl (h'.alloc _) (by omega) (by simp) ?_))
      intro v1 w1 hown1 hgrow1
      have hb1 : Below w.heap.size w w1 := Below.grown (Below.al (Below.refl _ _) _) hgrow1 (by simp) (fun k hk => ((own_empty w w.heap.size 3 (Nat.le_refl _)).lt k hk).1)
      go_wp2_with (at_builtin; (refine wpList_append_ints rfl (.tmp 35) (.tmp 38) 39 rfl w.heap.size 3 i0 Tryd.underlying39 hi hz0 hz1 hz2 _ m (ints es) rfl (hown1.alloc _) _ 1 1 w1.heap.size 0 [(n : Int)] rfl (ints1 (Box.new _ _ 3)) (by omega) (by have := hb1.size; simp; omega) ?_))
      intro v2 w2 hown2 hgrow2
      have hb2 : Below w.heap.size w w2 := Below.grown (Below.al hb1 _) hgrow2 (by have := hb1.size; simp; omega) (fun k hk => (hown1.lt k hk).1)
      replace hown2 : w2.ownsRow w.heap.size 3 1 v2 (m + 1) ((ints (es ++ [n])).map (Value.int .i64)) := by rw [ints_snoc, List.map_append]; exact hown2
      obtain ⟨a2, c2, bq, rfl, hbq, hi2⟩ := IntsAt.of_own hown2
      go_wp2_with fail
      refine (refCostOf_ok xs (es ++ [n]) _ _ n (m + 1) k c2 b bq o 0 _ (h.keep hb2) hi2 HX.out hn HCH.out.1).mono ?_
      rintro e w3 ⟨a3, k3, b3, rfl, _, hi3, hb3⟩
      go_wp2_with fail
      refine (refDear_any (costsOf (ix xs) 0 (es ++ [n])) _ (m + 1) k3 b3 0 _ hi3 (fun j => (costsOf_bd HX.out hn HCH.out.1 j).1)).mono ?_
      rintro e w4 ⟨rfl, rfl⟩
      rw [← worst_dear, HCH.out.2]
      go_wp2
      go_ret2
      exact ⟨a2, c2, bq, by rw [← HS.out]; rfl, by rw [← HS.out]; exact hi2.keep hb3, (by repeat (first | fail | (with_reducible exact Below.refl _ _) | (with_reducible exact hb2) | (with_reducible refine Below.al ?_ _) | (with_reducible refine Below.drN ?_ _) | (with_reducible refine Below.drew ?_) | (with_reducible refine Below.st ?_ ?_ _; rotate_left 1; (first | (dsimp only; omega) | omega | (simp; omega) | simp)) | (with_reducible refine Below.go ?_ hb3) | exact Below.refl _ _ | exact hb2))⟩
  | succ r ih =>
    intro es k0 a a' m k k' b b' o o' w h h' hS hch hk
    have hl' := h'.len
    rw [ints_length] at hl'
    rw [hl'] at hS
    have hw0 := (chain_cw hch).2
    have HCH := Lib.hid hch
    have HL := Lib.hid hl'
    have hls : ((m : Int) == (S : Int) - 1) = false := by simp; omega
    have hm6 : m ≤ 6 := by omega
    have HP : Hid (0 ≤ worst (ix xs) 0 es) := Lib.hid (worst_nn (fun i => (HX.out i).1) es 0)
    have HIH := Lib.hid ih
    have hS1 : m + r + 2 ≤ S ∧ S ≤ m + r + 2 := by omega
    obtain ⟨hS1, hS2⟩ := hS1
    clear ih hS
    by_cases hm : m = 0
    · have hm0 : ((m : Int) > 0) = False := by simp; omega
      have hm0' : (0 < m) = False := by simp; omega
      have HK : Hid ((1 : Int) = (k0 : Int) + 1) := Lib.hid (by rw [← hw0, hl', hm]; rfl)
      clear hch hl' hw0 hm
      go_enter Tryd.func27, Tryd.ntmps27
      go_wp2
      clear hls
      go_loopw [12, 13, 14] (fun v u i wr => ∃ (j : Nat), j ≤ n - k0 - (r + 1) ∧ i = .int .i64 ((k0 : Int) + 1 + j) ∧ AccV wr S es (accTo (ix xs) n r (worst (ix xs) 0 es) k0 j) v u ∧ Below w.heap.size w wr) (fun _ _ i _ => n + 1 - (intOf i).toNat)
      case atStart => exact ⟨0, Nat.zero_le _, (by have := HK.out; simp; omega), ⟨rfl, rfl⟩, (by repeat (first | fail | (with_reducible exact Below.refl _ _) | (with_reducible refine Below.al ?_ _) | (with_reducible refine Below.drN ?_ _) | (with_reducible refine Below.drew ?_) | (with_reducible refine Below.st ?_ ?_ _; rotate_left 1; (first | (dsimp only; omega) | omega | (simp; omega) | simp)) | exact Below.refl _ _))⟩
      case round =>
        obtain ⟨j, hj, rfl, hacc, hbr⟩ := hrel
        by_cases hlt : j < n - k0 - (r + 1)
        · have ht : ((n : Int) - ((k0 : Int) + 1 + (j : Int)) ≥ (S : Int) - 1 - (m : Int)) = True := by simp; omega
          obtain ⟨e0, he0⟩ : ∃ e0, k0 + 1 + j = e0 := ⟨_, rfl⟩
          have hei : (k0 : Int) + 1 + (j : Int) = (e0 : Int) := by omega
          have HCE : Hid (Chain e0 0 (es ++ [e0]) ∧ worst (ix xs) 0 (es ++ [e0]) = max (worst (ix xs) 0 es) (sg (ix xs) k0 (j + 1))) := Lib.hid (by
            obtain ⟨h1, h2⟩ := chain_snoc (c := ix xs) (e := e0) HCH.out (by omega)
            rw [show e0 - k0 = j + 1 by omega] at h2
            have h3 := HP.out
            have h4 := sg_nn (fun i => (HX.out i).1) k0 (j + 1)
            exact ⟨h1, by omega⟩)
          obtain ⟨R, hR⟩ : ∃ R, refBest (ix xs) n r (max (worst (ix xs) 0 es) (sg (ix xs) k0 (j + 1))) e0 = R := ⟨_, rfl⟩
          have hq0 : 0 ≤ R.2 := by rw [← hR]; exact refBest_nn (fun i => (HX.out i).1) r _ _ (by have := HP.out; omega) (by omega)
          have hsu := accTo_succ (c := ix xs) (n := n) (r := r) (k := k0) (j := j) (P := worst (ix xs) 0 es)
          rw [he0, hR] at hsu
          have HSU := Lib.hid hsu
          have HR := Lib.hid hR
          have hen : e0 ≤ n := by omega
          have hjn : j + 1 ≤ n - k0 - (r + 1) := hlt
          have HIX : Hid (e0 + r + 1 ≤ n) := Lib.hid (by omega)
          rw [hei] at ht ⊢
          have HEI := Lib.hid hei
          clear hsu hR he0 hei
          have hown0 := own_empty wr wr.heap.size 3 (Nat.le_refl _)
          replace h' := h'.keep hbr
          replace h := h.keep hbr
          go_wp2_with (at_builtin; (refine wpList_append_ints rfl (.tmp 61) (.tmp 62) 39 rfl wr.heap.size 3 i0 Tryd.underlying39 hi hz0 hz1 hz2 _ 0 [] rfl hown0 a' m k' b' o' (ints es) rfl (h'.alloc _) (by omega) (by simp) ?_))
          intro v1 w1 hown1 hgrow1
          have hb1 : Below wr.heap.size wr w1 := Below.grown (Below.al (Below.refl _ _) _) hgrow1 (by simp) (fun k hk => (hown0.lt k hk).1)
          go_wp2_with (at_builtin; (refine wpList_append_ints rfl (.tmp 64) (.tmp 66) 39 rfl wr.heap.size 3 i0 Tryd.underlying39 hi hz0 hz1 hz2 _ m (ints es) rfl (hown1.alloc _) _ 1 1 w1.heap.size 0 [(e0 : Int)] rfl (ints1 (Box.new _ _ 3)) (by omega) (by have := hb1.size; simp; omega) ?_))
          intro v2 w2 hown2 hgrow2
          have hb2 : Below wr.heap.size wr w2 := Below.grown (Below.al hb1 _) hgrow2 (by have := hb1.size; simp; omega) (fun k hk => (hown1.lt k hk).1)
          replace hown2 : w2.ownsRow wr.heap.size 3 1 v2 (m + 1) ((ints (es ++ [e0])).map (Value.int .i64)) := by rw [ints_snoc, List.map_append]; exact hown2
          obtain ⟨a2, c2, bq, rfl, hbq, hi2⟩ := IntsAt.of_own hown2
          go_wp2_with fail
          refine (HIH.out (es ++ [e0]) e0 _ _ (m + 1) k c2 b bq o 0 _ (h.keep hb2) hi2 (by rw [List.length_append, HL.out]; have : [e0].length = 1 := rfl; omega) HCE.out.1 HIX.out).mono ?_
          rintro e w3 ⟨a3, k3, b3, rfl, hi3, hb3⟩
          rw [HCE.out.2, HR.out] at hi3 ⊢
          have hi3' : IntsAt w3 a3 S k3 b3 0 (ints (es ++ e0 :: R.1)) := by rw [List.append_assoc] at hi3; exact hi3
          have hacc' := hacc.keep ((by repeat (first | fail | (with_reducible exact Below.refl _ _) | (with_reducible exact hb2) | (with_reducible refine Below.al ?_ _) | (with_reducible refine Below.drN ?_ _) | (with_reducible refine Below.drew ?_) | (with_reducible refine Below.st ?_ ?_ _; rotate_left 1; (first | (dsimp only; omega) | omega | (simp; omega) | simp)) | (with_reducible refine Below.go ?_ hb3) | exact Below.refl _ _ | exact hb2)) : Below wr.heap.size wr w3)
          have hbn : Below w.heap.size w w3 := (by repeat (first | fail | (with_reducible exact Below.refl _ _) | (with_reducible exact hbr) | (with_reducible refine Below.al ?_ _) | (with_reducible refine Below.drN ?_ _) | (with_reducible refine Below.drew ?_) | (with_reducible refine Below.st ?_ ?_ _; rotate_left 1; (first | (dsimp only; omega) | omega | (simp; omega) | simp)) | (with_reducible refine Below.go ?_ hb3) | (with_reducible refine Below.go ?_ hb2) | exact Below.refl _ _ | exact hbr))
          clear hi3 hi2 hown2 hown1 hown0 hacc hgrow1 hgrow2
          obtain ⟨ac, hac⟩ : ∃ ac, accTo (ix xs) n r (worst (ix xs) 0 es) k0 j = ac := ⟨_, rfl⟩
          rw [hac] at hacc'
          have HAC := Lib.hid hac
          clear hac
          cases ac with
          | none =>
            obtain ⟨rfl, rfl⟩ := hacc'
            have HACC : Hid (accTo (ix xs) n r (worst (ix xs) 0 es) k0 (j + 1) = some (e0 :: R.1, R.2)) := Lib.hid (by rw [HSU.out, HAC.out]; rfl)
            go_wp2
            go_roundw
            case rel => exact ⟨j + 1, hjn, (by have h9 := HEI.out; congr 1; push_cast; omega), by rw [HACC.out]; exact ⟨a3, k3, b3, rfl, hi3', rfl, hq0⟩, hbn⟩
            case measure => have h9 := HEI.out; simp [intOf]; omega
          | some A =>
            obtain ⟨aA, kA, bA, rfl, hiA, rfl, hA0⟩ := hacc'
            have g1 : (A.2 < 0) = False := by simp; omega
            by_cases hlt2 : R.2 < A.2
            · have HACC : Hid (accTo (ix xs) n r (worst (ix xs) 0 es) k0 (j + 1) = some (e0 :: R.1, R.2)) := Lib.hid (by rw [HSU.out, HAC.out]; simp only [better]; rw [if_pos hlt2])
              go_wp2
              go_roundw
              case rel => exact ⟨j + 1, hjn, (by have h9 := HEI.out; congr 1; push_cast; omega), by rw [HACC.out]; exact ⟨a3, k3, b3, rfl, hi3', rfl, hq0⟩, hbn⟩
              case measure => have h9 := HEI.out; simp [intOf]; omega
            · have HACC : Hid (accTo (ix xs) n r (worst (ix xs) 0 es) k0 (j + 1) = some A) := Lib.hid (by rw [HSU.out, HAC.out]; simp only [better]; rw [if_neg hlt2])
              have g2 : (R.2 < A.2) = False := by simp; omega
              clear hlt2
              go_wp2
              go_roundw
              case rel => exact ⟨j + 1, hjn, (by have h9 := HEI.out; congr 1; push_cast; omega), by rw [HACC.out]; exact ⟨aA, kA, bA, rfl, hiA, rfl, hA0⟩, hbn⟩
              case measure => have h9 := HEI.out; simp [intOf]; omega
        · have ht : ((n : Int) - ((k0 : Int) + 1 + (j : Int)) ≥ (S : Int) - 1 - (m : Int)) = False := by simp; omega
          obtain rfl : n - k0 - (r + 1) = j := by omega
          have HRB := Lib.hid (refBest_acc (c := ix xs) (n := n) (r := r) (k := k0) (P := worst (ix xs) 0 es))
          obtain ⟨A, hA⟩ := accTo_some (c := ix xs) (n := n) (r := r) (k := k0) (P := worst (ix xs) 0 es) (j := n - k0 - (r + 1)) (by omega)
          rw [hA] at HRB hacc
          obtain ⟨aA, kA, bA, rfl, hiA, rfl, hA0⟩ := hacc
          clear hA
          go_wp2
          go_ret2
          exact ⟨aA, kA, bA, by rw [HRB.out]; rfl, by rw [HRB.out]; exact hiA, hbr⟩
    · obtain ⟨p, rfl⟩ : ∃ p, m = p + 1 := ⟨m - 1, by omega⟩
      obtain rfl := h'.ptr (by omega)
      have hc := h'.cell p (by omega)
      rw [ints_ix, ← cw_is es 0 p, ← hl', hw0] at hc
      clear hch hl' hw0 hm
      obtain ⟨m, hpm⟩ : ∃ m, m = p + 1 := ⟨_, rfl⟩
      rw [← hpm] at h' HL hS1 hS2 hls hm6 ⊢
      have hm1 : (m : Int) - 1 = (p : Int) := by omega
      have hm2 : (p : Int) < (m : Int) := by omega
      have hm3 : (0 < m) = True := by simp; omega
      clear hpm
      go_enter Tryd.func27, Tryd.ntmps27
      go_wp2
      clear hls
      go_loopw [12, 13, 14] (fun v u i wr => ∃ (j : Nat), j ≤ n - k0 - (r + 1) ∧ i = .int .i64 ((k0 : Int) + 1 + j) ∧ AccV wr S es (accTo (ix xs) n r (worst (ix xs) 0 es) k0 j) v u ∧ Below w.heap.size w wr) (fun _ _ i _ => n + 1 - (intOf i).toNat)
      case atStart => exact ⟨0, Nat.zero_le _, (by simp), ⟨rfl, rfl⟩, (by repeat (first | fail | (with_reducible exact Below.refl _ _) | (with_reducible refine Below.al ?_ _) | (with_reducible refine Below.drN ?_ _) | (with_reducible refine Below.drew ?_) | (with_reducible refine Below.st ?_ ?_ _; rotate_left 1; (first | (dsimp only; omega) | omega | (simp; omega) | simp)) | exact Below.refl _ _))⟩
      case round =>
        obtain ⟨j, hj, rfl, hacc, hbr⟩ := hrel
        by_cases hlt : j < n - k0 - (r + 1)
        · have ht : ((n : Int) - ((k0 : Int) + 1 + (j : Int)) ≥ (S : Int) - 1 - (m : Int)) = True := by simp; omega
          obtain ⟨e0, he0⟩ : ∃ e0, k0 + 1 + j = e0 := ⟨_, rfl⟩
          have hei : (k0 : Int) + 1 + (j : Int) = (e0 : Int) := by omega
          have HCE : Hid (Chain e0 0 (es ++ [e0]) ∧ worst (ix xs) 0 (es ++ [e0]) = max (worst (ix xs) 0 es) (sg (ix xs) k0 (j + 1))) := Lib.hid (by
            obtain ⟨h1, h2⟩ := chain_snoc (c := ix xs) (e := e0) HCH.out (by omega)
            rw [show e0 - k0 = j + 1 by omega] at h2
            have h3 := HP.out
            have h4 := sg_nn (fun i => (HX.out i).1) k0 (j + 1)
            exact ⟨h1, by omega⟩)
          obtain ⟨R, hR⟩ : ∃ R, refBest (ix xs) n r (max (worst (ix xs) 0 es) (sg (ix xs) k0 (j + 1))) e0 = R := ⟨_, rfl⟩
          have hq0 : 0 ≤ R.2 := by rw [← hR]; exact refBest_nn (fun i => (HX.out i).1) r _ _ (by have := HP.out; omega) (by omega)
          have hsu := accTo_succ (c := ix xs) (n := n) (r := r) (k := k0) (j := j) (P := worst (ix xs) 0 es)
          rw [he0, hR] at hsu
          have HSU := Lib.hid hsu
          have HR := Lib.hid hR
          have hen : e0 ≤ n := by omega
          have hjn : j + 1 ≤ n - k0 - (r + 1) := hlt
          have HIX : Hid (e0 + r + 1 ≤ n) := Lib.hid (by omega)
          rw [hei] at ht ⊢
          have HEI := Lib.hid hei
          clear hsu hR he0 hei
          have hown0 := own_empty wr wr.heap.size 3 (Nat.le_refl _)
          replace h' := h'.keep hbr
          replace h := h.keep hbr
          go_wp2_with (at_builtin; (refine wpList_append_ints rfl (.tmp 61) (.tmp 62) 39 rfl wr.heap.size 3 i0 Tryd.underlying39 hi hz0 hz1 hz2 _ 0 [] rfl hown0 (some ⟨b', o', none⟩) m k' b' o' (ints es) rfl (h'.alloc _) (by omega) (by simp) ?_))
          intro v1 w1 hown1 hgrow1
          have hb1 : Below wr.heap.size wr w1 := Below.grown (Below.al (Below.refl _ _) _) hgrow1 (by simp) (fun k hk => (hown0.lt k hk).1)
          go_wp2_with (at_builtin; (refine wpList_append_ints rfl (.tmp 64) (.tmp 66) 39 rfl wr.heap.size 3 i0 Tryd.underlying39 hi hz0 hz1 hz2 _ m (ints es) rfl (hown1.alloc _) _ 1 1 w1.heap.size 0 [(e0 : Int)] rfl (ints1 (Box.new _ _ 3)) (by omega) (by have := hb1.size; simp; omega) ?_))
          intro v2 w2 hown2 hgrow2
          have hb2 : Below wr.heap.size wr w2 := Below.grown (Below.al hb1 _) hgrow2 (by have := hb1.size; simp; omega) (fun k hk => (hown1.lt k hk).1)
          replace hown2 : w2.ownsRow wr.heap.size 3 1 v2 (m + 1) ((ints (es ++ [e0])).map (Value.int .i64)) := by rw [ints_snoc, List.map_append]; exact hown2
          obtain ⟨a2, c2, bq, rfl, hbq, hi2⟩ := IntsAt.of_own hown2
          go_wp2_with fail
          refine (HIH.out (es ++ [e0]) e0 _ _ (m + 1) k c2 b bq o 0 _ (h.keep hb2) hi2 (by rw [List.length_append, HL.out]; have : [e0].length = 1 := rfl; omega) HCE.out.1 HIX.out).mono ?_
          rintro e w3 ⟨a3, k3, b3, rfl, hi3, hb3⟩
          rw [HCE.out.2, HR.out] at hi3 ⊢
          have hi3' : IntsAt w3 a3 S k3 b3 0 (ints (es ++ e0 :: R.1)) := by rw [List.append_assoc] at hi3; exact hi3
          have hacc' := hacc.keep ((by repeat (first | fail | (with_reducible exact Below.refl _ _) | (with_reducible exact hb2) | (with_reducible refine Below.al ?_ _) | (with_reducible refine Below.drN ?_ _) | (with_reducible refine Below.drew ?_) | (with_reducible refine Below.st ?_ ?_ _; rotate_left 1; (first | (dsimp only; omega) | omega | (simp; omega) | simp)) | (with_reducible refine Below.go ?_ hb3) | exact Below.refl _ _ | exact hb2)) : Below wr.heap.size wr w3)
          have hbn : Below w.heap.size w w3 := (by repeat (first | fail | (with_reducible exact Below.refl _ _) | (with_reducible exact hbr) | (with_reducible refine Below.al ?_ _) | (with_reducible refine Below.drN ?_ _) | (with_reducible refine Below.drew ?_) | (with_reducible refine Below.st ?_ ?_ _; rotate_left 1; (first | (dsimp only; omega) | omega | (simp; omega) | simp)) | (with_reducible refine Below.go ?_ hb3) | (with_reducible refine Below.go ?_ hb2) | exact Below.refl _ _ | exact hbr))
          clear hi3 hi2 hown2 hown1 hown0 hacc hgrow1 hgrow2
          obtain ⟨ac, hac⟩ : ∃ ac, accTo (ix xs) n r (worst (ix xs) 0 es) k0 j = ac := ⟨_, rfl⟩
          rw [hac] at hacc'
          have HAC := Lib.hid hac
          clear hac
          cases ac with
          | none =>
            obtain ⟨rfl, rfl⟩ := hacc'
            have HACC : Hid (accTo (ix xs) n r (worst (ix xs) 0 es) k0 (j + 1) = some (e0 :: R.1, R.2)) := Lib.hid (by rw [HSU.out, HAC.out]; rfl)
            go_wp2
            go_roundw
            case rel => exact ⟨j + 1, hjn, (by have h9 := HEI.out; congr 1; push_cast; omega), by rw [HACC.out]; exact ⟨a3, k3, b3, rfl, hi3', rfl, hq0⟩, hbn⟩
            case measure => have h9 := HEI.out; simp [intOf]; omega
          | some A =>
            obtain ⟨aA, kA, bA, rfl, hiA, rfl, hA0⟩ := hacc'
            have g1 : (A.2 < 0) = False := by simp; omega
            by_cases hlt2 : R.2 < A.2
            · have HACC : Hid (accTo (ix xs) n r (worst (ix xs) 0 es) k0 (j + 1) = some (e0 :: R.1, R.2)) := Lib.hid (by rw [HSU.out, HAC.out]; simp only [better]; rw [if_pos hlt2])
              go_wp2
              go_roundw
              case rel => exact ⟨j + 1, hjn, (by have h9 := HEI.out; congr 1; push_cast; omega), by rw [HACC.out]; exact ⟨a3, k3, b3, rfl, hi3', rfl, hq0⟩, hbn⟩
              case measure => have h9 := HEI.out; simp [intOf]; omega
            · have HACC : Hid (accTo (ix xs) n r (worst (ix xs) 0 es) k0 (j + 1) = some A) := Lib.hid (by rw [HSU.out, HAC.out]; simp only [better]; rw [if_neg hlt2])
              have g2 : (R.2 < A.2) = False := by simp; omega
              clear hlt2
              go_wp2
              go_roundw
              case rel => exact ⟨j + 1, hjn, (by have h9 := HEI.out; congr 1; push_cast; omega), by rw [HACC.out]; exact ⟨aA, kA, bA, rfl, hiA, rfl, hA0⟩, hbn⟩
              case measure => have h9 := HEI.out; simp [intOf]; omega
        · have ht : ((n : Int) - ((k0 : Int) + 1 + (j : Int)) ≥ (S : Int) - 1 - (m : Int)) = False := by simp; omega
          obtain rfl : n - k0 - (r + 1) = j := by omega
          have HRB := Lib.hid (refBest_acc (c := ix xs) (n := n) (r := r) (k := k0) (P := worst (ix xs) 0 es))
          obtain ⟨A, hA⟩ := accTo_some (c := ix xs) (n := n) (r := r) (k := k0) (P := worst (ix xs) 0 es) (j := n - k0 - (r + 1)) (by omega)
          rw [hA] at HRB hacc
          obtain ⟨aA, kA, bA, rfl, hiA, rfl, hA0⟩ := hacc
          clear hA
          go_wp2
          go_ret2
          exact ⟨aA, kA, bA, by rw [HRB.out]; rfl, by rw [HRB.out]; exact hiA, hbr⟩
end Go.Proofs.YtjaepdkeldgikaaDoor
