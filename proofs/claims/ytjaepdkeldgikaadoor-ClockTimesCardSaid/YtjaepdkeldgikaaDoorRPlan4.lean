/- Contracts of the reference: PlanFault, in rounds. -/
import Derived.Test.YtjaepdkeldgikaaDoorRPlan3
import Derived.Test.YtjaepdkeldgikaaDoorPPlan6
import Derived.Test.YtjaepdkeldgikaaDoorPlan7
import Derived.BigQuiet
import Derived.Deep.LoopGhost
set_option linter.unusedVariables false
set_option linter.unusedSimpArgs false
set_option linter.unusedSectionVars false
set_option maxRecDepth 100000
namespace Gal
/-- where an act first stands; -1: nowhere -/
noncomputable def whereOf (l : List ActD) (a : ActD) : Int :=
  open Classical in if h : ∃ t : Nat, t < l.length ∧ ax l t = a ∧ a ∉ l.take t then ((Classical.choose h : Nat) : Int) else -1
theorem whereOf_no {l : List ActD} {a : ActD} (h : a ∉ l) : whereOf l a = -1 := by
  unfold whereOf
  rw [dif_neg]
  rintro ⟨t, ht, e, _⟩
  exact h (by rw [← e]; exact List.mem_of_mem_take (ax_mem_take (n := l.length) ht ht))
theorem whereOf_at {l : List ActD} {a : ActD} {t : Nat} (ht : t < l.length) (e : ax l t = a) (hn : a ∉ l.take t) : whereOf l a = t := by
  have h : ∃ t : Nat, t < l.length ∧ ax l t = a ∧ a ∉ l.take t := ⟨t, ht, e, hn⟩
  unfold whereOf
  rw [dif_pos h]
  obtain ⟨h1, h2, h3⟩ := Classical.choose_spec h
  generalize Classical.choose h = u at h1 h2 h3
  rcases Nat.lt_trichotomy u t with h4 | h4 | h4
  · exact absurd (by rw [← h2]; exact ax_mem_take h1 h4) hn
  · rw [h4]
  · exact absurd (by rw [← e]; exact ax_mem_take ht h4) h3
theorem whereOf_lt {l : List ActD} {a : ActD} {y : Nat} (h : a ∈ l) : whereOf l a < y ↔ a ∈ l.take y := by
  obtain ⟨j, hj, e⟩ := mem_ax h
  have hex : ∀ j, j < l.length → ax l j = a → ∃ t : Nat, t < l.length ∧ ax l t = a ∧ a ∉ l.take t := fun j => by
    induction j using Nat.strongRecOn with
    | ind j ih =>
      intro hj e
      by_cases hm : a ∈ l.take j
      · obtain ⟨i, hi⟩ := List.getElem?_of_mem hm
        have hij : i < j := by
          rcases Nat.lt_or_ge i j with h1 | h1
          · exact h1
          · rw [List.getElem?_eq_none (by rw [List.length_take]; omega)] at hi; cases hi
        rw [List.getElem?_take_of_lt hij, ax_get (by omega)] at hi
        simp only [Option.some.injEq] at hi
        exact ih i hij (by omega) hi
      · exact ⟨j, hj, e, hm⟩
  obtain ⟨t, ht, et, hn⟩ := hex j hj e
  rw [whereOf_at ht et hn]
  constructor
  · intro h1
    rw [← et]
    exact ax_mem_take ht (by omega)
  · intro h1
    rcases Nat.lt_or_ge t y with h2 | h2
    · omega
    · exact absurd (mem_take_mono h1 h2) hn
end Gal
namespace Go.Proofs.YtjaepdkeldgikaaDoor
open Go.RowKit Gal Go.Maps
set_option maxHeartbeats 4000000
theorem cellA {w : World} {a : Addr} {v : Value} (h : w.cell? a = some v) (q : Nat) (ob : Obj) : ((w.drewN q).alloc ob).cell? a = some v :=
  (((below_drewN (Below.refl w.heap.size w) q).alloc (Nat.le_refl _) ob).cell (World.block_lt_of_cell? w _ h)).trans h
theorem newA (w : World) (c : Array Value) (T : TypeId) (q i : Nat) : ((w.drewN q).alloc (.cells c T)).cell? ⟨w.heap.size, i, none⟩ = c[i]? := World.cell?_alloc_new (w := w.drewN q) c T i
theorem newF (w : World) (c : Array Value) (T : TypeId) (q i : Nat) : ((w.drewN q).alloc (.cells c T)).frozen? ⟨w.heap.size, i, none⟩ = false := by
  simp [World.frozen?, World.alloc, World.drewN]
theorem where_is (l : List ActD) (K y : Int) (a : Option Addr) (n k b o : Nat) (F : Nat → Prop) (w : World) (h : RowAt Form.act w F a n k b o l) :
    Calls Tryd.prog 43 #[.slice a n k, .int .i64 K, .int .i64 y] w fun e w' => e = .returned (.int .i64 (whereOf l (K, y))) ∧ w = w' := by
  have HL := Lib.hid h.len
  refine (where_ok l K y a n k b o F w h).mono ?_
  rintro e w' ⟨v, rfl, rfl, h1⟩
  refine ⟨?_, rfl⟩
  rcases h1 with ⟨rfl, h2⟩ | ⟨t, ht, rfl, e, h2⟩
  · rw [whereOf_no h2]
  · rw [whereOf_at (by rw [HL.out]; exact ht) e h2]
theorem quietw0 {l : List ActD} {K y : Int} {a : Option Addr} {n k b o : Nat} {F : Nat → Prop} {w : World} (h : RowAt Form.act w F a n k b o l) {m : Nat} : Calls Tryd.prog 43 #[.slice a n k, .int .i64 K, .int .i64 y] (w.drewN m) fun e w'' => e = .returned (.int .i64 (whereOf l (K, y))) ∧ ∃ m, w'' = w.drewN m :=
  (where_is l K y a n k b o F _ (h.drewN m)).mono fun _ _ ⟨he, hm⟩ => ⟨he, m, hm.symm⟩
theorem quietw1 {l : List ActD} {K y : Int} {a : Option Addr} {n k b o : Nat} {F : Nat → Prop} {w : World} (h : RowAt Form.act w F a n k b o l) {c m : Nat} : Calls Tryd.prog 43 #[.slice a n k, .int .i64 K, .int .i64 y] (w.drewN (c + m)) fun e w'' => e = .returned (.int .i64 (whereOf l (K, y))) ∧ ∃ m, w'' = w.drewN (c + m) :=
  (where_is l K y a n k b o F _ (h.drewN (c + m))).mono fun _ _ ⟨he, hm⟩ => ⟨he, m, hm.symm⟩
theorem refPlanFault_bad (p : PlanD) (M : Int) (a : Option Addr) (n k b o : Nat) (F : Nat → Prop) (w : World) (h : RowAt Form.plan w F a n k b o p) (hbad : planBad M p) :
    Calls Tryd.prog 14 #[.slice a n k, .int .i64 M] w fun e w' => e = .returned (.int .i64 1) ∧ Below w.heap.size w w' := by
  have hmx := h.max
  unfold maxLen at hmx
  unfold planBad at hbad
  rw [h.len] at hbad
  by_cases g1 : M < 1
  · clear hbad
    go_enter Tryd.func14, Tryd.ntmps14
    go_wp2
    go_ret
    exact ⟨rfl, (by repeat (first | fail | (with_reducible exact Below.refl _ _) | (with_reducible refine Below.al ?_ _) | (with_reducible refine Below.drN ?_ _) | (with_reducible refine Below.drew ?_) | (with_reducible refine Below.st ?_ ?_ _; rotate_left 1; (first | (dsimp only; omega) | omega | (simp; omega) | simp)) | exact Below.refl _ _))⟩
  · have e1 : (M < 1) = False := by simp; omega
    by_cases g2 : M > 12
    · clear hbad g1
      go_enter Tryd.func14, Tryd.ntmps14
      go_wp2
      go_ret
      exact ⟨rfl, (by repeat (first | fail | (with_reducible exact Below.refl _ _) | (with_reducible refine Below.al ?_ _) | (with_reducible refine Below.drN ?_ _) | (with_reducible refine Below.drew ?_) | (with_reducible refine Below.st ?_ ?_ _; rotate_left 1; (first | (dsimp only; omega) | omega | (simp; omega) | simp)) | exact Below.refl _ _))⟩
    · have e2 : (M > 12) = False := by simp; omega
      by_cases g3 : (n : Int) < 1
      · clear hbad g1 g2
        go_enter Tryd.func14, Tryd.ntmps14
        go_wp2
        go_ret
        exact ⟨rfl, (by repeat (first | fail | (with_reducible exact Below.refl _ _) | (with_reducible refine Below.al ?_ _) | (with_reducible refine Below.drN ?_ _) | (with_reducible refine Below.drew ?_) | (with_reducible refine Below.st ?_ ?_ _; rotate_left 1; (first | (dsimp only; omega) | omega | (simp; omega) | simp)) | exact Below.refl _ _))⟩
      · have e3 : ((n : Int) < 1) = False := by simp; omega
        have e4 : (n : Int) > 6 := by omega
        clear hbad g1 g2 g3
        go_enter Tryd.func14, Tryd.ntmps14
        go_wp2
        go_ret
        exact ⟨rfl, (by repeat (first | fail | (with_reducible exact Below.refl _ _) | (with_reducible refine Below.al ?_ _) | (with_reducible refine Below.drN ?_ _) | (with_reducible refine Below.drew ?_) | (with_reducible refine Below.st ?_ ?_ _; rotate_left 1; (first | (dsimp only; omega) | omega | (simp; omega) | simp)) | exact Below.refl _ _))⟩
structure RInv (p : PlanD) (n : Nat) (w wr : World) (B : Nat) (nx : Nat → Nat) : Prop where
  row : Box wr B ((upto (fun s => (nx s : Int)) n).map (Value.int .i64)) 3
  below : Below w.heap.size w wr
  reach : Gal.Reach p nx
theorem RInv.keep {p : PlanD} {n B : Nat} {w wr w' : World} {nx : Nat → Nat} (h : RInv p n w wr B nx) (hb : Below wr.heap.size wr w') : RInv p n w w' B nx := ⟨h.row.keep hb, h.below.trans (hb.mono h.below.size), h.reach⟩
theorem RInv.drewN {p : PlanD} {n B : Nat} {w wr : World} {nx : Nat → Nat} (h : RInv p n w wr B nx) (q : Nat) : RInv p n w (wr.drewN q) B nx := ⟨h.row.drewN q, below_drewN h.below q, h.reach⟩
theorem RInv.step {p : PlanD} {n B t y : Nat} {w wr : World} {nz : Nat → Nat} (h : RInv p n w wr B nz) (hB : w.heap.size ≤ B) (hlt : t < n) (hn : p.length = n) (hy : nz t = y) (hc : can p nz t) : RInv p n w (wr.setCell ⟨B, t, none⟩ (.int .i64 ((y : Int) + 1))) B (bump nz t) := by
  refine ⟨?_, h.below.setCell hB _, .step h.reach (by omega) hc⟩
  have h1 := h.row.iset t ((y : Int) + 1)
  rw [upto_set hlt] at h1
  have h2 : upto (fun q => if q = t then (y : Int) + 1 else (nz q : Int)) n = upto (fun s => (bump nz t s : Int)) n := upto_congr fun q hq => by
    unfold bump
    by_cases e : q = t
    · rw [if_pos e, if_pos e, hy]; push_cast; rfl
    · rw [if_neg e, if_neg e]
  rw [h2] at h1
  exact h1
theorem refPlanFault_ok (p : PlanD) (m : Nat) (a : Option Addr) (n k b o : Nat) (F : Nat → Prop) (w : World) (h : RowAt Form.plan w F a n k b o p) (hbad : ¬ planBad m p) :
    Calls Tryd.prog 14 #[.slice a n k, .int .i64 m] w fun e w' => e = .returned (.int .i64 (planFault m p)) ∧ Below w.heap.size w w' := by
  have HL := Lib.hid h.len
  have hmx := h.max
  unfold maxLen at hmx
  have HNB := Lib.hid hbad
  obtain ⟨⟨M1, M2⟩, n1, n2⟩ : (1 ≤ m ∧ m ≤ 12) ∧ 1 ≤ n ∧ n ≤ 6 := by unfold planBad at hbad; rw [HL.out] at hbad; omega
  have g1 : ((m : Int) < 1) = False := by simp; omega
  have g2 : ((m : Int) > 12) = False := by simp; omega
  have g3 : ((n : Int) < 1) = False := by simp; omega
  have g4 : ((n : Int) > 6) = False := by simp; omega
  obtain rfl := h.ptr (by omega)
  have hlb := h.lt (by omega)
  obtain ⟨V, hV⟩ : ∃ V, planFault m p = V := ⟨_, rfl⟩
  rw [hV]
  have HV := Lib.hid hV
  obtain ⟨i0, hi, hz0, hz1, hz2⟩ := info_parts info_int'
  have hmk := fun W => run_make_rowN (P := Tryd.prog) 39 3 i0 _ Tryd.underlying39 hi hz0 .i64 .i64 n n (n : Int) (n : Int) rfl rfl (Nat.le_refl _) (by rw [hz2]; omega) (by omega) W
  rw [hz1, Nat.mul_one] at hmk
  have hmc : (madeCells (Value.int .i64 0).cells n) = ((zeros n).map (Value.int .i64)).toArray := by
    apply Array.toList_inj.1
    show (madeCells #[Value.int .i64 0] n).toList = _
    rw [toList_madeCells_one]
    simp [zeros]
  rw [hmc] at hmk
  clear hmc hbad hV
  go_enter Tryd.func14, Tryd.ntmps14
  go_wp2
  go_loopw [5] (fun i wr => ∃ t : Nat, t ≤ n ∧ i = .int .i64 t ∧ Hid (∀ s, s < t → actsFault m (px p s) = 0) ∧ Below w.heap.size w wr) (fun i _ => n - (intOf i).toNat)
  case atStart => exact ⟨0, Nat.zero_le _, rfl, Lib.hid fun s hs => absurd hs (Nat.not_lt_zero _), (by repeat (first | fail | (with_reducible exact Below.refl _ _) | (with_reducible refine Below.al ?_ _) | (with_reducible refine Below.drN ?_ _) | (with_reducible refine Below.drew ?_) | (with_reducible refine Below.st ?_ ?_ _; rotate_left 1; (first | (dsimp only; omega) | omega | (simp; omega) | simp)) | exact Below.refl _ _))⟩
  case round =>
    obtain ⟨t, ht, rfl, hok, hbr⟩ := hrel
    by_cases hlt : t < n
    · obtain ⟨a1, n1', k1', b1, o1, c0, hr1⟩ := plan_cell (h.keep hbr) hlt
      go_wp2_with fail
      refine (refActs_ok (px p t) m _ n1' k1' b1 o1 F _ hr1 (by omega)).mono ?_
      rintro e w1 ⟨rfl, q1, rfl⟩
      by_cases hz : actsFault m (px p t) = 0
      · rw [hz]
        have HN : Hid (∀ s, s < t + 1 → actsFault m (px p s) = 0) := Lib.hid fun s hs => by
          rcases Nat.lt_or_ge s t with h1 | h1
          · exact hok.out s h1
          · obtain rfl : s = t := by omega
            exact hz
        clear hz hr1 c0
        go_wp2
        go_roundw
        case rel => exact ⟨t + 1, by omega, by go_num, HN, (by repeat (first | fail | (with_reducible exact Below.refl _ _) | (with_reducible exact hbr) | (with_reducible refine Below.al ?_ _) | (with_reducible refine Below.drN ?_ _) | (with_reducible refine Below.drew ?_) | (with_reducible refine Below.st ?_ ?_ _; rotate_left 1; (first | (dsimp only; omega) | omega | (simp; omega) | simp)) | exact Below.refl _ _ | exact hbr))⟩
        case measure => simp [intOf]; omega
      · have HF : Hid (V = actsFault m (px p t)) := Lib.hid (by
          have h1 := stageFault_some (M := m) (show t < p.length by rw [HL.out]; exact hlt) hz hok.out
          rw [← HV.out, planFault_first HNB.out (by rw [h1]; exact hz), h1])
        obtain ⟨x, hx⟩ : ∃ x, actsFault m (px p t) = x := ⟨_, rfl⟩
        rw [hx] at HF hz ⊢
        have e1 : (x != 0) = true := by simp [hz]
        clear hz hr1 c0 hx
        go_wp2
        go_ret
        exact ⟨by rw [HF.out]; rfl, (by repeat (first | fail | (with_reducible exact Below.refl _ _) | (with_reducible exact hbr) | (with_reducible refine Below.al ?_ _) | (with_reducible refine Below.drN ?_ _) | (with_reducible refine Below.drew ?_) | (with_reducible refine Below.st ?_ ?_ _; rotate_left 1; (first | (dsimp only; omega) | omega | (simp; omega) | simp)) | exact Below.refl _ _ | exact hbr))⟩
    · obtain rfl : n = t := by omega
      have HOK := hok
      obtain ⟨B, hB⟩ : ∃ B, wr.heap.size = B := ⟨_, rfl⟩
      have HB : Hid (w.heap.size ≤ B) := Lib.hid (by rw [← hB]; exact hbr.size)
      have hinv : RInv p n w (wr.alloc (.cells ((zeros n).map (Value.int .i64)).toArray 3)) B (fun _ => 0) :=
        ⟨by
          have : (upto (fun s => (((fun _ => 0 : Nat → Nat) s : Nat) : Int)) n) = zeros n := by rw [zeros_upto]; rfl
          rw [this]
          exact Box.new' _ _ _ _ (by simp [hB]), (by repeat (first | fail | (with_reducible exact Below.refl _ _) | (with_reducible exact hbr) | (with_reducible refine Below.al ?_ _) | (with_reducible refine Below.drN ?_ _) | (with_reducible refine Below.drew ?_) | (with_reducible refine Below.st ?_ ?_ _; rotate_left 1; (first | (dsimp only; omega) | omega | (simp; omega) | simp)) | exact Below.refl _ _ | exact hbr)), Gal.Reach.start⟩
      have hlen : ∀ s, s < n → (px p s).length = 2 * m := fun s hs => by have := (actsFault_ok (HOK.out s hs)).2.2.1; omega
      have hsum : ∀ nx, Gal.Reach p nx → sumTo' nx n ≤ 2 * m * n := fun nx hr => sum_le fun s hs => by rw [← hlen s hs]; exact reach_bd hr s (by rw [HL.out]; exact hs)
      have HLEN := Lib.hid hlen
      have HSUM := Lib.hid hsum
      obtain ⟨T, hT⟩ : ∃ T, 2 * m * n = T := ⟨_, rfl⟩
      rw [hT] at HSUM
      clear hok hlen hsum hT
      go_wp2
      go_loopg [8] (2 * T + 1) (fun gk mo wr => ∃ (more : Bool) (nx : Nat → Nat), mo = .bool more ∧ RInv p n w wr B nx ∧ gk = 2 * (T - sumTo' nx n) + more.toNat ∧ Hid (more = false → ∀ r, r < n → ¬ can p nx r))
      case atStart => exact ⟨true, _, rfl, hinv, by rw [sum_zero]; rfl, Lib.hid fun h => by cases h⟩
      case round =>
        clear hinv
        obtain ⟨more, nx, rfl, hinv, hgk, hno⟩ := hrel
        cases more with
        | true =>
          obtain ⟨ws, rfl⟩ : ∃ ws : World, ws = wr := ⟨_, rfl⟩
          go_wp2
          go_loopw [8, 9] (fun mo i wr => ∃ (more : Bool) (t : Nat) (ny : Nat → Nat), mo = .bool more ∧ i = .int .i64 t ∧ t ≤ n ∧ RInv p n w wr B ny ∧ Hid (sumTo' nx n ≤ sumTo' ny n ∧ (more = true → sumTo' nx n < sumTo' ny n) ∧ (more = false → sumTo' nx n = sumTo' ny n)) ∧ Hid (more = false → ∀ r, r < t → ¬ can p ny r)) (fun _ i _ => n - (intOf i).toNat)
          case atStart => exact ⟨false, 0, nx, rfl, rfl, Nat.zero_le _, hinv, Lib.hid ⟨Nat.le_refl _, (fun h => by cases h), (fun _ => rfl)⟩, Lib.hid fun _ r hr => absurd hr (Nat.not_lt_zero _)⟩
          case round =>
            clear hinv
            obtain ⟨more, t, ny, rfl, rfl, ht, hinv, hs, hno2⟩ := hrel
            by_cases hlt : t < n
            · go_wp2
              go_loopg [8] (T - sumTo' ny n) (fun gk mo wr => ∃ (more : Bool) (nz : Nat → Nat), mo = .bool more ∧ RInv p n w wr B nz ∧ gk = T - sumTo' nz n ∧ Hid (sumTo' nx n ≤ sumTo' nz n ∧ (more = true → sumTo' nx n < sumTo' nz n) ∧ (more = false → sumTo' nx n = sumTo' nz n)) ∧ Hid (more = false → ∀ r, r < t → ¬ can p nz r))
              case atStart => exact ⟨more, ny, rfl, hinv, rfl, hs, hno2⟩
              case round =>
                clear hinv hs hno2
                obtain ⟨more, nz, rfl, hinv, hgk2, hs, hno2⟩ := hrel
                obtain ⟨a1, n1', k1', b1, o1, c0, hr1⟩ := plan_cell (h.keep hinv.below) hlt
                have hL1 := hr1.len
                have hmx1 := hr1.max
                unfold maxLen at hmx1
                have HL1 := Lib.hid hL1
                clear hL1
                obtain ⟨y, hy⟩ : ∃ y, nz t = y := ⟨_, rfl⟩
                have hle := reach_bd hinv.reach t (by rw [HL.out]; exact hlt)
                rw [hy, HL1.out] at hle
                have HY := Lib.hid hy
                have cn := hinv.row.icell (k := t) (by rw [upto_length]; exact hlt)
                rw [upto_ix hlt, hy] at cn
                have h0 : (0 : Int) ≤ (t : Int) := by omega
                have h1 : (t : Int) < (n : Int) := by omega
                clear hy
                by_cases hyl : y < n1'
                · obtain rfl := hr1.ptr (by omega)
                  obtain ⟨d0, d1⟩ := act_cells hr1 hyl
                  obtain ⟨⟨x0, x1⟩, hx⟩ : ∃ x, ax (px p t) y = x := ⟨_, rfl⟩
                  rw [hx] at d0 d1
                  dsimp only at d0 d1
                  have HX := Lib.hid hx
                  have hact := (actsFault_ok (HOK.out t hlt)).1 y (by rw [HL1.out]; exact hyl)
                  rw [hx] at hact
                  unfold actOk at hact
                  dsimp only at hact
                  obtain ⟨hk, k2, k3⟩ := hact
                  have h2 : (0 : Int) ≤ (y : Int) := by omega
                  have h3 : (y : Int) < (n1' : Int) := by omega
                  have hiff := refRdy_is (p := p) (nx := nz) (m := m) (s := t) (HOK.out t hlt) (by rw [HY.out, HL1.out]; exact hyl)
                  rw [HY.out, HX.out] at hiff
                  have HCAN : Hid (refRdy p nz t (x0, x1) ↔ can p nz t) := Lib.hid (by
                    rw [hiff]
                    unfold can
                    rw [HY.out, HX.out, HL1.out]
                    exact ⟨fun h => ⟨hyl, h⟩, fun h => h.2⟩)
                  have l1 := (h.keep hinv.below).lt (by omega)
                  have l2 := hr1.lt (by omega)
                  have fc0 := fun q ob => cellA c0 q ob
                  have fd0 := fun q ob => cellA d0 q ob
                  have fd1 := fun q ob => cellA d1 q ob
                  have fn0 : ∀ q, ((wr.drewN q).alloc (.cells #[.int .i64 0, .int .i64 0] 73)).cell? ⟨wr.heap.size, 0, none⟩ = some (.int .i64 0) := fun q => newA wr _ _ q 0
                  have fn1 : ∀ q, ((wr.drewN q).alloc (.cells #[.int .i64 0, .int .i64 0] 73)).cell? ⟨wr.heap.size, 1, none⟩ = some (.int .i64 0) := fun q => newA wr _ _ q 1
                  have fnf := fun c T q i => newF wr c T q i
                  have fB := fun q ob => cellA cn q ob
                  clear hx hiff
                  go_wp2
                  go_quiet (fail)
                  go_wp2
                  go_region
                  all_goals
                    obtain ⟨wz, hwz⟩ : ∃ wz, ((((wr.drewN (nq + 1)).alloc (Obj.cells #[Value.int .i64 0, Value.int .i64 0] 73)).setCell ⟨wr.heap.size, 0, none⟩ (.int .i64 x0)).setCell ⟨wr.heap.size, 1, none⟩ (.int .i64 x1)) = wz := ⟨_, rfl⟩
                    have bz : Box wz wr.heap.size [.int .i64 x0, .int .i64 x1] 73 := by
                      rw [← hwz]
                      exact ((Box.new' (wr.drewN (nq + 1)) wr.heap.size [Value.int .i64 0, Value.int .i64 0] 73 rfl).set 0 (.int .i64 x0)).set 1 (.int .i64 x1)
                    have hbz : Below wr.heap.size wr wz := by rw [← hwz]; exact (by repeat (first | fail | (with_reducible exact Below.refl _ _) | (with_reducible refine Below.al ?_ _) | (with_reducible refine Below.drN ?_ _) | (with_reducible refine Below.drew ?_) | (with_reducible refine Below.st ?_ ?_ _; rotate_left 1; (first | (dsimp only; omega) | omega | (simp; omega) | simp)) | exact Below.refl _ _))
                    have l3 := hinv.row.lt
                    replace hinv := hinv.keep hbz
                    have hBD : B ≠ wr.heap.size := by have := l3; omega
                    obtain ⟨D, hD⟩ : ∃ D, wr.heap.size = D := ⟨_, rfl⟩
                    rw [hwz]
                    rw [hD] at bz hBD ⊢
                    have HM : Hid (actOk m (x0, x1)) := Lib.hid ⟨hk, k2, k3⟩
                    have z0 := bz.cell 0
                    have z1 := bz.cell 1
                    have cy := hinv.row.icell (k := t) (by rw [upto_length]; exact hlt)
                    rw [upto_ix hlt, HY.out] at cy
                    have fy := hinv.row.thawed t
                    clear fn0 fn1 fnf fB fc0 fd0 fd1 cn d0 d1 c0 hr1 l1 l2 l3 hwz hbz hD
                    by_cases hk2 : x0 = 2
                    · subst hk2
                      clear hk
                      by_cases hr : t + 1 < n
                      · have e1 : ((t : Int) + 1 < (n : Int)) = True := by simp; omega
                        obtain ⟨a2, m2, q2, b2, o2, ca, hr2⟩ := plan_cell (h.keep hinv.below) (show (t + 1) < n by omega)
                        have cb := hinv.row.icell (k := (t + 1)) (by rw [upto_length]; omega)
                        rw [upto_ix (by omega)] at cb
                        obtain ⟨z, hz⟩ : ∃ z, nz ((t + 1)) = z := ⟨_, rfl⟩
                        rw [hz] at cb
                        have HMEM : Hid ((2, x1) ∈ px p ((t + 1))) := Lib.hid (by
                          have h5 := actsFault_ok (HOK.out ((t + 1)) (by omega))
                          exact acts_full h5.1 h5.2.1 (by have := h5.2.2.1; omega) HM.out)
                        have HW : Hid (whereOf (px p ((t + 1))) (2, x1) < (z : Int) ↔ can p nz t) := Lib.hid (by
                          rw [whereOf_lt HMEM.out, ← HCAN.out, ← hz]
                          unfold refRdy
                          (rw [if_pos rfl]; exact ⟨Or.inr, fun h => h.resolve_left (by rw [HL.out]; omega)⟩))
                        clear hz
                        by_cases hw : whereOf (px p ((t + 1))) (2, x1) < (z : Int)
                        · have HGO : Hid (can p nz t) := Lib.hid (HW.out.1 hw)
                          have e3 : ((z : Int) ≤ whereOf (px p ((t + 1))) (2, x1)) = False := by simp; omega
                          go_wp2
                          go_quiet ((go_at_call 43; first | exact quietw0 hr2 | exact quietw1 hr2))
                          go_wp2
                          have HINV := Lib.hid ((hinv.drewN nq).step HB.out hlt HL.out HY.out HGO.out)
                          have HSB := Lib.hid (sum_bump (nx := nz) (s := t) (n := n) hlt)
                          go_roundg (T - sumTo' (bump nz t) n)
                          case rel => exact ⟨true, bump nz t, rfl, HINV.out, rfl, Lib.hid (by have h1 := hs.out; have h2 := HSB.out; exact ⟨by omega, fun _ => by omega, fun h => by cases h⟩), Lib.hid fun h => by cases h⟩
                          case measure => have h1 := HSUM.out _ HINV.out.reach; have h2 := HSB.out; omega
                        · have HNC : Hid (¬ can p nz t) := Lib.hid (fun hc => hw (HW.out.2 hc))
                          have e3 : ((z : Int) ≤ whereOf (px p ((t + 1))) (2, x1)) = True := by simp; omega
                          go_wp2
                          go_quiet ((go_at_call 43; first | exact quietw0 hr2 | exact quietw1 hr2))
                          go_wp2
                          go_roundw
                          case rel => exact ⟨more, t + 1, nz, rfl, by go_num, by omega, hinv.drewN nq, hs, Lib.hid fun hm r hr => by
                            rcases Nat.lt_or_ge r t with h1 | h1
                            · exact hno2.out hm r h1
                            · obtain rfl : r = t := by omega
                              exact HNC.out⟩
                          case measure => simp [intOf]; omega
                      · have e1 : ((t : Int) + 1 < (n : Int)) = False := by simp; omega
                        have HGO : Hid (can p nz t) := Lib.hid (HCAN.out.1 (by unfold refRdy; rw [if_pos rfl]; exact Or.inl (by rw [HL.out]; omega)))
                        go_wp2
                        have HINV := Lib.hid (hinv.step HB.out hlt HL.out HY.out HGO.out)
                        have HSB := Lib.hid (sum_bump (nx := nz) (s := t) (n := n) hlt)
                        go_roundg (T - sumTo' (bump nz t) n)
                        case rel => exact ⟨true, bump nz t, rfl, HINV.out, rfl, Lib.hid (by have h1 := hs.out; have h2 := HSB.out; exact ⟨by omega, fun _ => by omega, fun h => by cases h⟩), Lib.hid fun h => by cases h⟩
                        case measure => have h1 := HSUM.out _ HINV.out.reach; have h2 := HSB.out; omega
                    · obtain rfl : x0 = 1 := by omega
                      clear hk hk2
                      by_cases hr : t = 0
                      · have HGO : Hid (can p nz t) := Lib.hid (HCAN.out.1 (by unfold refRdy; rw [if_neg (by dsimp only; omega)]; exact Or.inl hr))
                        have e1 : ((t : Int) - 1 ≥ 0) = False := by simp; omega
                        have e2 : (1 ≤ (t : Int)) = False := by simp; omega
                        have e3 : (1 ≤ t) = False := by simp; omega
                        have e4 : (0 < t) = False := by simp; omega
                        clear hr
                        go_wp2
                        have HINV := Lib.hid (hinv.step HB.out hlt HL.out HY.out HGO.out)
                        have HSB := Lib.hid (sum_bump (nx := nz) (s := t) (n := n) hlt)
                        go_roundg (T - sumTo' (bump nz t) n)
                        case rel => exact ⟨true, bump nz t, rfl, HINV.out, rfl, Lib.hid (by have h1 := hs.out; have h2 := HSB.out; exact ⟨by omega, fun _ => by omega, fun h => by cases h⟩), Lib.hid fun h => by cases h⟩
                        case measure => have h1 := HSUM.out _ HINV.out.reach; have h2 := HSB.out; omega
                      · obtain ⟨r, hr2⟩ : ∃ r, t - 1 = r := ⟨_, rfl⟩
                        have e1 : (t : Int) - 1 = (r : Int) := by omega
                        have HR : Hid (t - 1 = r ∧ ¬ t = 0) := Lib.hid ⟨hr2, hr⟩
                        have e2 : (r : Int) < (n : Int) := by omega
                        have e4 : (0 : Int) ≤ (r : Int) := by omega
                        have hrn : r < n := by omega
                        clear hr hr2
                        obtain ⟨a2, m2, q2, b2, o2, ca, hr2⟩ := plan_cell (h.keep hinv.below) (show r < n by omega)
                        have cb := hinv.row.icell (k := r) (by rw [upto_length]; omega)
                        rw [upto_ix (by omega)] at cb
                        obtain ⟨z, hz⟩ : ∃ z, nz (r) = z := ⟨_, rfl⟩
                        rw [hz] at cb
                        have HMEM : Hid ((1, x1) ∈ px p (r)) := Lib.hid (by
                          have h5 := actsFault_ok (HOK.out (r) (by omega))
                          exact acts_full h5.1 h5.2.1 (by have := h5.2.2.1; omega) HM.out)
                        have HW : Hid (whereOf (px p (r)) (1, x1) < (z : Int) ↔ can p nz t) := Lib.hid (by
                          rw [whereOf_lt HMEM.out, ← HCAN.out, ← hz]
                          unfold refRdy
                          (rw [if_neg (by dsimp only; omega), HR.out.1]; exact ⟨Or.inr, fun h => h.resolve_left HR.out.2⟩))
                        clear hz
                        by_cases hw : whereOf (px p (r)) (1, x1) < (z : Int)
                        · have HGO : Hid (can p nz t) := Lib.hid (HW.out.1 hw)
                          have e3 : ((z : Int) ≤ whereOf (px p (r)) (1, x1)) = False := by simp; omega
                          go_wp2
                          go_quiet ((go_at_call 43; first | exact quietw0 hr2 | exact quietw1 hr2))
                          go_wp2
                          have HINV := Lib.hid ((hinv.drewN nq).step HB.out hlt HL.out HY.out HGO.out)
                          have HSB := Lib.hid (sum_bump (nx := nz) (s := t) (n := n) hlt)
                          go_roundg (T - sumTo' (bump nz t) n)
                          case rel => exact ⟨true, bump nz t, rfl, HINV.out, rfl, Lib.hid (by have h1 := hs.out; have h2 := HSB.out; exact ⟨by omega, fun _ => by omega, fun h => by cases h⟩), Lib.hid fun h => by cases h⟩
                          case measure => have h1 := HSUM.out _ HINV.out.reach; have h2 := HSB.out; omega
                        · have HNC : Hid (¬ can p nz t) := Lib.hid (fun hc => hw (HW.out.2 hc))
                          have e3 : ((z : Int) ≤ whereOf (px p (r)) (1, x1)) = True := by simp; omega
                          go_wp2
                          go_quiet ((go_at_call 43; first | exact quietw0 hr2 | exact quietw1 hr2))
                          go_wp2
                          go_roundw
                          case rel => exact ⟨more, t + 1, nz, rfl, by go_num, by omega, hinv.drewN nq, hs, Lib.hid fun hm r hr => by
                            rcases Nat.lt_or_ge r t with h1 | h1
                            · exact hno2.out hm r h1
                            · obtain rfl : r = t := by omega
                              exact HNC.out⟩
                          case measure => simp [intOf]; omega
                · have HNO : Hid (more = false → ∀ r, r < t + 1 → ¬ can p nz r) := Lib.hid fun hm r hr => by
                    rcases Nat.lt_or_ge r t with h1 | h1
                    · exact hno2.out hm r h1
                    · obtain rfl : r = t := by omega
                      intro h2
                      have h3 := h2.1
                      rw [HY.out, HL1.out] at h3
                      exact hyl h3
                  have e1 : decide (y < n1') = false := decide_eq_false hyl
                  clear hyl hno2
                  go_wp2
                  go_quiet (fail)
                  go_wp2
                  go_roundw
                  case rel => exact ⟨more, t + 1, nz, rfl, by go_num, by omega, hinv.keep (by repeat (first | fail | (with_reducible exact Below.refl _ _) | (with_reducible refine Below.al ?_ _) | (with_reducible refine Below.drN ?_ _) | (with_reducible refine Below.drew ?_) | (with_reducible refine Below.st ?_ ?_ _; rotate_left 1; (first | (dsimp only; omega) | omega | (simp; omega) | simp)) | exact Below.refl _ _)), hs, HNO⟩
                  case measure => simp [intOf]; omega
            · obtain rfl : n = t := by omega
              go_wp2
              go_roundg (2 * (T - sumTo' ny n) + more.toNat)
              case rel => exact ⟨more, ny, rfl, hinv, rfl, hno2⟩
              case measure =>
                have h1 := hs.out
                have h2 := HSUM.out ny hinv.reach
                rw [hgk]
                cases more with
                | true => have := h1.2.1 rfl; simp; omega
                | false => have := h1.2.2 rfl; simp; omega
        | false =>
          have hsk := stuck_is (p := p) (nx := nx) (m := m) (by rw [HL.out]; exact HOK.out) hinv.reach (by rw [HL.out]; exact hno.out rfl)
          have hst : stageFault m p = 0 := stageFault_none (by rw [HL.out]; exact HOK.out)
          have h6 : ∀ s, s < n → nx s ≠ (px p s).length → V = 6 := fun s hs hne => by
            rw [← HV.out]
            refine planFault_6 HNB.out hst fun hd => hne ?_
            have h1 := hd s (by rw [HL.out]; exact hs)
            rw [Int.toNat_natCast, hsk s (by rw [HL.out]; exact hs)] at h1
            exact h1
          have hz0 : (∀ s, s < n → nx s = (px p s).length) → V = 0 := fun ha => by
            rw [← HV.out]
            refine planFault_0 HNB.out hst fun s hs => ?_
            rw [Int.toNat_natCast, hsk s hs]
            exact ha s (by rw [← HL.out]; exact hs)
          have H6 := Lib.hid h6
          have HZ := Lib.hid hz0
          clear hsk hst h6 hz0 hno hgk
          obtain ⟨ws, rfl⟩ : ∃ ws : World, ws = wr := ⟨_, rfl⟩
          go_wp2
          go_loopw [13] (fun i wr => ∃ t q : Nat, t ≤ n ∧ i = .int .i64 t ∧ wr = ws.drewN q ∧ Hid (∀ s, s < t → nx s = (px p s).length)) (fun i _ => n - (intOf i).toNat)
          case atStart => exact ⟨0, 0, Nat.zero_le _, rfl, rfl, Lib.hid fun s hs => absurd hs (Nat.not_lt_zero _)⟩
          case round =>
            obtain ⟨t, q, ht, rfl, rfl, hal⟩ := hrel
            by_cases hlt : t < n
            · obtain ⟨a1, n1', k1', b1, o1, c0, hr1⟩ := plan_cell (h.keep hinv.below) hlt
              have hL1 := hr1.len
              have hmx1 := hr1.max
              unfold maxLen at hmx1
              have HL1 := Lib.hid hL1
              obtain ⟨y, hy⟩ : ∃ y, nx t = y := ⟨_, rfl⟩
              have hle := reach_bd hinv.reach t (by rw [HL.out]; exact hlt)
              rw [hy, HL1.out] at hle
              have HY := Lib.hid hy
              have cn := hinv.row.icell (k := t) (by rw [upto_length]; exact hlt)
              rw [upto_ix hlt, hy] at cn
              have h0 : (0 : Int) ≤ (t : Int) := by omega
              have h1 : (t : Int) < (n : Int) := by omega
              clear hy hL1 hr1
              by_cases hyl : y < n1'
              · have HF : Hid (V = 6) := Lib.hid (H6.out t hlt (by rw [HY.out, HL1.out]; omega))
                have hbe := hinv.below
                go_wp2
                go_quiet (fail)
                go_wp2
                go_ret
                exact ⟨by rw [HF.out]; rfl, by first | exact below_drewN hbe _ | exact below_drewN (below_drewN hbe _) _⟩
              · have HN : Hid (∀ s, s < t + 1 → nx s = (px p s).length) := Lib.hid fun s hs => by
                  rcases Nat.lt_or_ge s t with h1 | h1
                  · exact hal.out s h1
                  · obtain rfl : s = t := by omega
                    rw [HY.out, HL1.out]; omega
                have e1 : decide (y < n1') = false := decide_eq_false hyl
                clear hyl
                go_wp2
                go_quiet (fail)
                go_wp2
                go_roundw
                case rel => exact ⟨t + 1, _, by omega, by go_num, (by first | rfl | exact World.drewN_drewN _ _ _), HN⟩
                case measure => simp [intOf]; omega
            · obtain rfl : n = t := by omega
              have HF : Hid (V = 0) := Lib.hid (HZ.out hal.out)
              have hbe := hinv.below
              go_wp2
              go_ret
              exact ⟨by rw [HF.out]; rfl, by first | exact below_drewN hbe _ | exact below_drewN (below_drewN hbe _) _⟩
/-- what is wrong with a plan, as the document says it -/
theorem refPlanFault_any (p : PlanD) (M : Int) (a : Option Addr) (n k b o : Nat) (F : Nat → Prop) (w : World) (h : RowAt Form.plan w F a n k b o p) :
    Calls Tryd.prog 14 #[.slice a n k, .int .i64 M] w fun e w' => e = .returned (.int .i64 (planFault M p)) ∧ Below w.heap.size w w' := by
  by_cases hb : planBad M p
  · rw [planFault_1 hb]
    exact refPlanFault_bad p M a n k b o F w h hb
  · obtain ⟨m, rfl⟩ : ∃ m : Nat, M = m := ⟨M.toNat, by unfold planBad at hb; omega⟩
    exact refPlanFault_ok p m a n k b o F w h hb
end Go.Proofs.YtjaepdkeldgikaaDoor
