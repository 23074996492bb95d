/- Texts joined: Plan3. -/
import Derived.Test.YtchngeagnlngaaaJ43
import Derived.Test.YtchngeagnlngaaaJ44
import Derived.Test.YtchngeagnlngaaaJ10
import Derived.WalkMore
import Derived.ScopeJumps
import Derived.Outline
section
set_option linter.unusedVariables false
set_option linter.unusedSimpArgs false
set_option linter.unusedSectionVars false
namespace Gal
open Go
def Form.plan : Form (List ActD) := Form.slice Form.act
theorem plan_cell {w : World} {F : Nat → Prop} {a : Option Addr} {n k b o : Nat} {p : PlanD} (h : RowAt Form.plan w F a n k b o p) {t : Nat} (ht : t < n) :
  ∃ a1 n1 k1 b1 o1, w.cell? ⟨b, o + t, none⟩ = some (.slice a1 n1 k1) ∧ RowAt Form.act w F a1 n1 k1 b1 o1 (px p t) := by
 obtain ⟨cs, ⟨a1, n1, k1, b1, o1, rfl, hr1⟩, hc⟩ := h.cell t (px p t) (px_get (by rw [h.len]; exact ht))
 refine ⟨a1, n1, k1, b1, o1, ?_, hr1⟩
 have h0 := hc 0 (by decide)
 rw [show Form.plan.size = 1 from rfl, Nat.mul_one, Nat.add_zero] at h0
 exact h0
def DidIs (p : PlanD) (nx : Nat → Nat) (l : List ((Int × ActD) × Int)) : Prop :=
 (∀ q ∈ l, q.2 = 1) ∧ ∀ (s : Nat) (a : ActD), s < p.length → (look l ((s : Int), a) = 1 ↔ a ∈ (px p s).take (nx s))
theorem didIs_nil (p : PlanD) : DidIs p (fun _ => 0) [] :=
 ⟨fun q hq => absurd hq List.not_mem_nil, fun s a _ => by
  constructor
  ·intro h; simp [look] at h
  ·intro h; simp at h⟩
theorem look_snoc {α : Type} [DecidableEq α] {l : List (α × Int)} {a x : α} (h : ∀ q ∈ l, q.1 ≠ a) : look (l ++ [(a, 1)]) x = if a = x then 1 else look l x := by
 unfold look
 rw [List.find?_append]
 by_cases e : a = x
 ·subst e
  rw [List.find?_eq_none.2 fun q hq => by simpa using h q hq]
  simp
 ·rw [if_neg e]
  cases hf : l.find? fun p => decide (p.1 = x) with
  | some q => rfl
  | none => simp [e]
theorem DidIs.not {p : PlanD} {nx : Nat → Nat} {l : List ((Int × ActD) × Int)} (h : DidIs p nx l) (hd : (l.map (·.1)).Nodup) {s : Nat} {a : ActD} (hs : s < p.length) (ha : a ∉ (px p s).take (nx s)) : ∀ q ∈ l, q.1 ≠ ((s : Int), a) := fun q hq e => by
 have h1 := look_some hd hq e
 rw [h.1 q hq] at h1
 exact ha ((h.2 s a hs).1 h1)
theorem DidIs.snoc {p : PlanD} {nx : Nat → Nat} {l : List ((Int × ActD) × Int)} (h : DidIs p nx l) {s : Nat} (hs : s < p.length) (hl : nx s < (px p s).length) (hn : ∀ q ∈ l, q.1 ≠ ((s : Int), ax (px p s) (nx s))) :
  DidIs p (bump nx s) (l ++ [(((s : Int), ax (px p s) (nx s)), 1)]) := by
 refine ⟨fun q hq => ?_, fun r a hr => ?_⟩
 ·rcases List.mem_append.1 hq with hq | hq
  ·exact h.1 q hq
  ·simp only [List.mem_singleton] at hq; rw [hq]
 ·rw [look_snoc hn]
  unfold bump
  by_cases e : r = s
  ·subst e
   rw [if_pos rfl, take_ax hl]
   by_cases e2 : ax (px p r) (nx r) = a
   ·simp [e2]
   ·rw [if_neg (by simpa using e2), h.2 r a hr]
    simp only [List.mem_append, List.mem_singleton]
    constructor
    ·intro h3; exact Or.inl h3
    ·intro h3
     rcases h3 with h3 | h3
     ·exact h3
     ·exact absurd h3.symm e2
  ·rw [if_neg e, if_neg (fun e3 => e (by have := congrArg Prod.fst e3; dsimp only at this; omega)), h.2 r a hr]
theorem doneL_is {p : PlanD} {nx : Nat → Nat} {l : List ((Int × ActD) × Int)} (h : DidIs p nx l) {s : Nat} {S : Int} (hS : S = s) {a : ActD} (hs : s < p.length) : doneL l S a = decide (a ∈ (px p s).take (nx s)) := by
 subst hS
 unfold doneL
 rw [Bool.eq_iff_iff]
 simp [h.2 s a hs]
theorem readyL_is {p : PlanD} {nx : Nat → Nat} {l : List ((Int × ActD) × Int)} (h : DidIs p nx l) {s n : Nat} (hn : p.length = n) {a : ActD} (hs : s < n) : readyL l n s a = decide (rdy p nx s a) := by
 subst hn
 unfold readyL rdy
 by_cases k1 : a.1 = 1
 ·rw [if_pos k1]
  by_cases k2 : s = 0
  ·rw [if_pos (by omega)]; simp [k1, k2]
  ·rw [if_neg (by omega), doneL_is h (s := s - 1) (by omega) (by omega)]
   simp [k1, k2]
 ·rw [if_neg k1, doneL_is h rfl hs]
  by_cases k3 : (1, a.2) ∈ (px p s).take (nx s)
  ·rw [if_pos (by simpa using k3)]
   by_cases k2 : s + 1 = p.length
   ·rw [if_pos (by omega)]; simp [k1, k2, k3]
   ·rw [if_neg (by omega), doneL_is h (s := s + 1) (by omega) (by omega)]
    simp [k1, k2, k3]
  ·rw [if_neg (by simpa using k3)]
   simp [k1, k3]
end Gal
namespace Go.Proofs.Ytchngeagnlngaaa
open Go.RowKit Gal Go.Maps
set_option maxRecDepth 100000
set_option maxHeartbeats 8000000
structure PlanInv (p : PlanD) (T n : Nat) (w wr : World) (B : Nat) (nx : Nat → Nat) (l : List ((Int × ActD) × Int)) : Prop where
 did : DidAt wr (B + 1) B l
 row : Box wr (B + 1 + 1) ((upto (fun s => (nx s : Int)) n).map (Value.int .i64)) 3
 below : Below w.heap.size w wr
 is : DidIs p nx l
 le : ∀ s, s < n → nx s ≤ (px p s).length
 sim : Gal.sim p (T - sumTo' nx n) nx = ranOf p T
theorem PlanInv.keep {p : PlanD} {T n B : Nat} {w wr w' : World} {nx : Nat → Nat} {l : List ((Int × ActD) × Int)} (h : PlanInv p T n w wr B nx l) (hb : Below wr.heap.size wr w') : PlanInv p T n w w' B nx l :=
 ⟨h.did.keep hb, h.row.keep hb, h.below.trans (hb.mono h.below.size), h.is, h.le, h.sim⟩
def AtLabel (p : PlanD) (T m n : Nat) (b o k : Nat) (w : World) (B : Nat) (a' : Act) (w' : World) : Prop :=
 ∃ (u : Nat → Value) (nx : Nat → Nat) (l : List ((Int × ActD) × Int)), a' = { tmps := #[.slice (some ⟨b, o, none⟩) n k, .int .i64 (m : Int), u 2, u 3, u 4, u 5, u 6, u 7, .pointer (some ⟨B + 1, 0, none⟩), .func (.func 77) #[] #[.pointer (some ⟨B + 1, 0, none⟩)], .slice (some ⟨B + 1 + 1, 0, none⟩) n n, .int .i64 ((T : Int) - (sumTo' nx n : Int)), u 12, u 13, u 14, u 15, u 16, u 17, u 18, u 19, u 20, u 21, u 22, u 23, u 24, u 25, u 26, u 27, u 28, u 29, u 30, u 31, u 32, u 33, u 34, u 35, u 36, u 37, u 38, u 39, u 40, u 41, u 42, u 43, u 44, u 45, u 46, u 47, u 48, u 49, u 50, u 51, u 52, u 53, u 54, u 55, u 56, u 57, u 58, u 59, u 60, u 61, u 62, u 63, u 64, u 65, u 66, u 67, u 68, u 69, u 70, u 71, u 72, u 73, u 74, u 75, u 76, u 77, u 78, u 79, u 80, u 81, u 82, u 83, u 84, u 85, u 86, u 87, u 88, u 89, u 90, u 91, u 92, u 93, u 94, u 95, u 96, u 97, u 98, u 99], defers := [] } ∧ PlanInv p T n w w' B nx l
theorem atLabel_of {p : PlanD} {T m n b o k B : Nat} {w w' : World} {tmps : Array Value} (nx : Nat → Nat) (l : List ((Int × ActD) × Int)) (hf : tmps = #[.slice (some ⟨b, o, none⟩) n k, .int .i64 (m : Int), (tmps.getD 2 undef), (tmps.getD 3 undef), (tmps.getD 4 undef), (tmps.getD 5 undef), (tmps.getD 6 undef), (tmps.getD 7 undef), .pointer (some ⟨B + 1, 0, none⟩), .func (.func 77) #[] #[.pointer (some ⟨B + 1, 0, none⟩)], .slice (some ⟨B + 1 + 1, 0, none⟩) n n, .int .i64 ((T : Int) - (sumTo' nx n : Int)), (tmps.getD 12 undef), (tmps.getD 13 undef), (tmps.getD 14 undef), (tmps.getD 15 undef), (tmps.getD 16 undef), (tmps.getD 17 undef), (tmps.getD 18 undef), (tmps.getD 19 undef), (tmps.getD 20 undef), (tmps.getD 21 undef), (tmps.getD 22 undef), (tmps.getD 23 undef), (tmps.getD 24 undef), (tmps.getD 25 undef), (tmps.getD 26 undef), (tmps.getD 27 undef), (tmps.getD 28 undef), (tmps.getD 29 undef), (tmps.getD 30 undef), (tmps.getD 31 undef), (tmps.getD 32 undef), (tmps.getD 33 undef), (tmps.getD 34 undef), (tmps.getD 35 undef), (tmps.getD 36 undef), (tmps.getD 37 undef), (tmps.getD 38 undef), (tmps.getD 39 undef), (tmps.getD 40 undef), (tmps.getD 41 undef), (tmps.getD 42 undef), (tmps.getD 43 undef), (tmps.getD 44 undef), (tmps.getD 45 undef), (tmps.getD 46 undef), (tmps.getD 47 undef), (tmps.getD 48 undef), (tmps.getD 49 undef), (tmps.getD 50 undef), (tmps.getD 51 undef), (tmps.getD 52 undef), (tmps.getD 53 undef), (tmps.getD 54 undef), (tmps.getD 55 undef), (tmps.getD 56 undef), (tmps.getD 57 undef), (tmps.getD 58 undef), (tmps.getD 59 undef), (tmps.getD 60 undef), (tmps.getD 61 undef), (tmps.getD 62 undef), (tmps.getD 63 undef), (tmps.getD 64 undef), (tmps.getD 65 undef), (tmps.getD 66 undef), (tmps.getD 67 undef), (tmps.getD 68 undef), (tmps.getD 69 undef), (tmps.getD 70 undef), (tmps.getD 71 undef), (tmps.getD 72 undef), (tmps.getD 73 undef), (tmps.getD 74 undef), (tmps.getD 75 undef), (tmps.getD 76 undef), (tmps.getD 77 undef), (tmps.getD 78 undef), (tmps.getD 79 undef), (tmps.getD 80 undef), (tmps.getD 81 undef), (tmps.getD 82 undef), (tmps.getD 83 undef), (tmps.getD 84 undef), (tmps.getD 85 undef), (tmps.getD 86 undef), (tmps.getD 87 undef), (tmps.getD 88 undef), (tmps.getD 89 undef), (tmps.getD 90 undef), (tmps.getD 91 undef), (tmps.getD 92 undef), (tmps.getD 93 undef), (tmps.getD 94 undef), (tmps.getD 95 undef), (tmps.getD 96 undef), (tmps.getD 97 undef), (tmps.getD 98 undef), (tmps.getD 99 undef)]) (hinv : PlanInv p T n w w' B nx l) : AtLabel p T m n b o k w B { tmps := tmps, defers := [] } w' :=
 ⟨fun i => tmps.getD i undef, nx, l, by rw [← hf], hinv⟩
theorem planCheck_bad (p : PlanD) (M : Int) (a : Option Addr) (n k b o : Nat) (F : Nat → Prop) (w : World) (h : RowAt Form.plan w F a n k b o p) (hbad : planBad M p) :
  Calls Try.prog 49 #[.slice a n k, .int .i64 M] w fun e w' => e = .returned (errV (planFault M p)) ∧ Below w.heap.size w w' := by
 rw [planFault_1 hbad, errV_err (by decide)]
 have hmx := h.max
 unfold maxLen at hmx
 unfold planBad at hbad
 rw [h.len] at hbad
 by_cases g1 : M < 1
 ·clear hbad
  go_enter Try.func49, Try.ntmps49
  go_wp2
  refine wp_scope_jumps 0 (fun a' w' => False) (fun a' _ => 0) rfl ?_ (fun _ _ h0 => h0.elim)
  go_wp2
  simp only [Exit.jump]
  go_ret
  exact ⟨rfl, Below.x0⟩
 ·have e1 : (M < 1) = False := by simp; omega
  by_cases g2 : M > 12
  ·clear hbad g1
   go_enter Try.func49, Try.ntmps49
   go_wp2
   refine wp_scope_jumps 0 (fun a' w' => False) (fun a' _ => 0) rfl ?_ (fun _ _ h0 => h0.elim)
   go_wp2
   simp only [Exit.jump]
   go_ret
   exact ⟨rfl, Below.x0⟩
  ·have e2 : (M > 12) = False := by simp; omega
   by_cases g3 : (n : Int) < 1
   ·clear hbad g1 g2
    go_enter Try.func49, Try.ntmps49
    go_wp2
    refine wp_scope_jumps 0 (fun a' w' => False) (fun a' _ => 0) rfl ?_ (fun _ _ h0 => h0.elim)
    go_wp2
    simp only [Exit.jump]
    go_ret
    exact ⟨rfl, Below.x0⟩
   ·have e3 : ((n : Int) < 1) = False := by simp; omega
    have e4 : (n : Int) > 6 := by omega
    clear hbad g1 g2 g3
    go_enter Try.func49, Try.ntmps49
    go_wp2
    refine wp_scope_jumps 0 (fun a' w' => False) (fun a' _ => 0) rfl ?_ (fun _ _ h0 => h0.elim)
    go_wp2
    simp only [Exit.jump]
    go_ret
    exact ⟨rfl, Below.x0⟩
theorem planCheck_ok (p : PlanD) (m : Nat) (a : Option Addr) (n k b o : Nat) (F : Nat → Prop) (w : World) (h : RowAt Form.plan w F a n k b o p) (hbad : ¬ planBad m p) :
  Calls Try.prog 49 #[.slice a n k, .int .i64 m] w fun e w' => e = .returned (errV (planFault m p)) ∧ Below w.heap.size w w' := by
 have HL := Lib.hid h.len
 have hmx := h.max
 unfold maxLen at hmx
 have HNB := Lib.hid hbad
 obtain ⟨⟨M1, M2⟩, n1, n2⟩ : (1 ≤ m ∧ m ≤ 12) ∧ 1 ≤ n ∧ n ≤ 6 := by unfold planBad at hbad; rw [HL.out] at hbad; omega
 have g1 : ((m : Int) < 1) = False := by simp; omega
 have g2 : ((m : Int) > 12) = False := by simp; omega
 have g3 : ((n : Int) < 1) = False := by simp; omega
 have g4 : ((n : Int) > 6) = False := by simp; omega
 obtain rfl := h.ptr (by omega)
 have hlb := h.lt (by omega)
 obtain ⟨T, hT⟩ : ∃ T, 2 * m * n = T := ⟨_, rfl⟩
 have hTI : 2 * (m : Int) * (n : Int) = (T : Int) := by rw [← hT]; push_cast; rfl
 have hTb : T ≤ 144 := by
  have h1 : 2 * m * n ≤ 2 * 12 * 6 := Nat.mul_le_mul (by omega) n2
  omega
 have hTw : wrap64 (2 * (m : Int) * (n : Int)) = (T : Int) := by rw [hTI]; unfold wrap64; omega
 have HT := Lib.hid hT
 clear hbad hT hTI
 obtain ⟨i0, hi, hz0, hz1, hz2⟩ := info_parts info_int'
 have hmk := fun W => run_make_rowN (P := Try.prog) 26 3 i0 _ Try.underlying26 hi hz0 .i64 .i64 n n (n : Int) (n : Int) rfl rfl (Nat.le_refl _) (by rw [hz2]; omega) (by omega) W
 rw [hz1, Nat.mul_one] at hmk
 have hmc : (madeCells (Value.int .i64 0).cells n) = ((zeros n).map (Value.int .i64)).toArray := by
  apply Array.toList_inj.1
  show (madeCells #[Value.int .i64 0] n).toList = _
  rw [toList_madeCells_one]
  simp [zeros]
 rw [hmc] at hmk
 clear hmc
 have hmm := @run_makeMap Try.prog
 go_enter Try.func49, Try.ntmps49
 go_wp2
 refine wp_scope_jumps 0 (fun a' w' => ∃ B, w.heap.size ≤ B ∧ Hid (∀ s, s < n → actsFault m (px p s) = 0) ∧ AtLabel p T m n b o k w B a' w') (fun a' _ => (intOf (a'.tmps.getD 11 undef)).toNat) rfl ?_ ?_
 ·go_wp2
  go_loopw [34] (fun i wr => ∃ t : Nat, t ≤ n ∧ i = .int .i64 t ∧ Hid (∀ s, s < t → actsFault m (px p s) = 0) ∧ Below w.heap.size w wr) (fun i _ => n - (intOf i).toNat)
  case atStart => exact ⟨0, Nat.zero_le _, rfl, Lib.hid fun s hs => absurd hs (Nat.not_lt_zero _), Below.x0⟩
  case round =>
   obtain ⟨t, ht, rfl, hok, hbr⟩ := hrel
   by_cases hlt : t < n
   ·obtain ⟨a1, n1', k1', b1, o1, c0, hr1⟩ := plan_cell (h.keep hbr) hlt
    go_wp2_with fail
    refine (fault_any (px p t) m _ n1' k1' b1 o1 F _ hr1 (by omega)).mono ?_
    rintro e w1 ⟨rfl, hb1⟩
    by_cases hz : actsFault m (px p t) = 0
    ·rw [errV_nil hz]
     have HN : Hid (∀ s, s < t + 1 → actsFault m (px p s) = 0) := Lib.hid fun s hs => by
      rcases Nat.lt_or_ge s t with h1 | h1
      ·exact hok.out s h1
      ·obtain rfl : s = t := by omega
       exact hz
     clear hz hr1 c0
     go_wp2
     go_roundw
     case rel => exact ⟨t + 1, by omega, by go_num, HN, (Below.y1 hb1 hbr)⟩
     case measure => simp [intOf]; omega
    ·rw [errV_err hz]
     have HF : Hid (planFault m p = actsFault m (px p t) ∧ actsFault m (px p t) ≠ 0) := Lib.hid (by
      have h1 := stageFault_some (M := m) (show t < p.length by rw [HL.out]; exact hlt) hz hok.out
      exact ⟨by rw [planFault_first HNB.out (by rw [h1]; exact hz), h1], hz⟩)
     clear hz hr1 c0
     go_wp2
     simp only [Exit.jump]
     go_ret
     exact ⟨by rw [HF.out.1, errV_err HF.out.2]; rfl, (Below.y1 hb1 hbr)⟩
   ·obtain rfl : n = t := by omega
    obtain ⟨B, hB⟩ : ∃ B, wr.heap.size = B := ⟨_, rfl⟩
    have HB : Hid (w.heap.size ≤ B) := Lib.hid (by rw [← hB]; exact hbr.size)
    have hinv : PlanInv p T n w (((wr.alloc (.map #[] 0)).alloc (.cells #[.map (some B)] 170)).alloc (.cells ((zeros n).map (Value.int .i64)).toArray 3)) B (fun _ => 0) [] :=
     ⟨⟨(Box.new' _ _ _ _ (by simp [hB])).alloc _, ((MapIs.new' _ _ hB.symm).alloc _).alloc _⟩, by
      have : (upto (fun s => (((fun _ => 0 : Nat → Nat) s : Nat) : Int)) n) = zeros n := by rw [zeros_upto]; rfl
      rw [this]
      exact Box.new' _ _ _ _ (by simp [hB]), (Below.y0 hbr), didIs_nil p, fun s hs => Nat.zero_le _, by rw [sum_zero]; rfl⟩
    have HOK := hok
    obtain ⟨wz, hwz⟩ : ∃ wz, ((wr.alloc (.map #[] 0)).alloc (.cells #[.map (some B)] 170)).alloc (.cells ((zeros n).map (Value.int .i64)).toArray 3) = wz := ⟨_, rfl⟩
    rw [hwz] at hinv
    go_wp2
    rw [hTw]
    obtain ⟨nx, hnx⟩ : ∃ nx : Nat → Nat, (fun _ => 0) = nx := ⟨_, rfl⟩
    obtain ⟨l, hl⟩ : ∃ l : List ((Int × ActD) × Int), [] = l := ⟨_, rfl⟩
    have hs0 : (T : Int) = (T : Int) - (sumTo' nx n : Int) := by rw [← hnx, sum_zero]; simp
    rw [hnx, hl] at hinv
    clear hnx hl hwz hB hmk hmm hTw hok
    rw [hs0]
    clear hs0
    go_step3
    go_wp2
    go_loopw [11, 57] (fun c i wr => ∃ t : Nat, t ≤ n ∧ i = .int .i64 t ∧ c = .int .i64 ((T : Int) - (sumTo' nx n : Int)) ∧ Hid (∀ r, r < t → ¬ can p nx r) ∧ PlanInv p T n w wr B nx l) (fun _ i _ => n - (intOf i).toNat)
    case atStart => exact ⟨0, Nat.zero_le _, rfl, rfl, Lib.hid fun r hr => absurd hr (Nat.not_lt_zero _), hinv⟩
    case round =>
     clear hinv
     obtain ⟨t, ht, rfl, rfl, hno, hinv⟩ := hrel
     by_cases hlt : t < n
     ·obtain ⟨a1, n1', k1', b1, o1, c0, hr1⟩ := plan_cell (h.keep hinv.below) hlt
      have hL1 := hr1.len
      have hmx1 := hr1.max
      unfold maxLen at hmx1
      obtain ⟨y, hy⟩ : ∃ y, nx t = y := ⟨_, rfl⟩
      have hle := hinv.le t hlt
      rw [hy, hL1] at hle
      have HY := Lib.hid hy
      have HL1 := Lib.hid hL1
      have cn := hinv.row.icell (k := t) (by rw [upto_length]; exact hlt)
      rw [upto_ix hlt, hy] at cn
      clear hy hL1
      by_cases hyl : y < n1'
      ·obtain rfl := hr1.ptr (by omega)
       obtain ⟨d0, d1⟩ := act_cells hr1 hyl
       obtain ⟨⟨x0, x1⟩, hx⟩ : ∃ x, ax (px p t) y = x := ⟨_, rfl⟩
       rw [hx] at d0 d1
       dsimp only at d0 d1
       have hok1 := (actsFault_ok (HOK.out t hlt))
       have hact : actOk 12 (x0, x1) := by
        have h1 := hok1.1 y (by rw [HL1.out]; exact hyl)
        rw [hx] at h1
        exact ⟨h1.1, h1.2.1, by have := h1.2.2; omega⟩
       have HX := Lib.hid hx
       have HND : Hid ((x0, x1) ∉ (px p t).take (nx t)) := Lib.hid (fun hm => nodup_no (l := px p t) (t := y) (by rw [HL1.out]; exact hyl) (by rw [hx, ← HY.out]; exact hm) hok1.2.1)
       have HACT := Lib.hid hact
       clear hx hok1 hact
       have hr1w := hr1
       go_wp2_with fail
       refine (ready_any n t (x0, x1) (B + 1) B l _ hinv.did (by omega) (by omega) HACT.out).mono ?_
       rintro e w1 ⟨rfl, hb1⟩
       rw [readyL_is hinv.is HL.out hlt]
       replace hinv := hinv.keep hb1
       by_cases hrd : rdy p nx t (x0, x1)
       ·rw [decide_eq_true hrd]
        have hnw := hinv.is.not (by obtain ⟨es, c, _, _, _, _, h6, _⟩ := hinv.did.2; exact h6) (by rw [HL.out]; exact hlt) HND.out
        obtain ⟨kl, hkl⟩ := at_keyOf (x := ((t : Int), (x0, x1))) (by dsimp only; omega) HACT.out
        obtain ⟨w2, hup, hm2, ho2⟩ := hinv.did.2.drew.update at_keyed Try.underlying170 zero_int atV_inj hkl hnw 1
        have cd := hinv.did.1.cell 0
        obtain ⟨e0, e1⟩ := act_cells (hr1w.keep hb1) hyl
        rw [HX.out] at e0 e1
        dsimp only at e0 e1
        have r2 : Box w2 (B + 1 + 1) ((upto (fun s => (nx s : Int)) n).map (Value.int .i64)) 3 := Box.only hinv.row.drew ho2 (by omega)
        have p2 : Box w2 (B + 1) [.map (some B)] 170 := Box.only hinv.did.1.drew ho2 (by omega)
        have cr := r2.icell (k := t) (by rw [upto_length]; exact hlt)
        rw [upto_ix hlt, HY.out] at cr
        have fr := r2.thawed t
        have hcan : can p nx t := ⟨by rw [HY.out, HL1.out]; exact hyl, by rw [HY.out, HX.out]; exact hrd⟩
        have hsn : nextS p nx = some t := nextS_some hcan (by rw [HL.out]; exact hlt) hno.out
        have hsb := sum_bump (nx := nx) (s := t) (n := n) hlt
        have hsl : sumTo' (bump nx t) n ≤ T := by
         have h1 : ∀ s, s < n → bump nx t s ≤ 2 * m := fun s hs => by
          have h3 := (actsFault_ok (HOK.out s hs)).2.2.1
          have h4 := hinv.le s hs
          unfold bump
          by_cases e : s = t
          ·rw [if_pos e]
           subst e
           rw [HY.out]
           have := HL1.out
           omega
          ·rw [if_neg e]; omega
         have h2 := sum_le (c := 2 * m) h1
         rw [HT.out] at h2
         exact h2
        have HINV : Hid (PlanInv p T n w (w2.setCell ⟨B + 1 + 1, t, none⟩ (.int .i64 ((y : Int) + 1))) B (bump nx t) (l ++ [(((t : Int), (x0, x1)), 1)])) := Lib.hid (by
         refine ⟨⟨p2.far (by dsimp only; omega) _, hm2.far (by dsimp only; omega) _⟩, ?_, ?_, ?_, ?_, ?_⟩
         ·have h1 := r2.iset t ((y : Int) + 1)
          rw [upto_set hlt] at h1
          have h2 : upto (fun q => if q = t then (y : Int) + 1 else (nx q : Int)) n = upto (fun s => (bump nx t s : Int)) n := upto_congr fun q hq => by
           unfold bump
           by_cases e : q = t
           ·rw [if_pos e, if_pos e, HY.out]; push_cast; rfl
           ·rw [if_neg e, if_neg e]
          rw [h2] at h1
          exact h1
         ·exact (ho2.below ((by repeat (first | (with_reducible first | exact Below.refl _ _ | exact hinv.below | refine Below.al ?_ _ | refine Below.drN ?_ _ | refine Below.drew ?_ | refine Below.sx ?_ _) | exact Below.refl _ _ | exact hinv.below)) : Below w.heap.size w w1.drew) HB.out (by have := hinv.below.size; simpa using this)).setCell (by have := HB.out; dsimp only; omega) _
         ·have h1 := hinv.is.snoc (s := t) (by rw [HL.out]; exact hlt) (by rw [HY.out, HL1.out]; exact hyl) (by rw [HY.out, HX.out]; exact hnw)
          rw [HY.out, HX.out] at h1
          exact h1
         ·intro s hs
          unfold bump
          by_cases e : s = t
          ·rw [if_pos e, HY.out]
           subst e
           have := HL1.out
           omega
          ·rw [if_neg e]; exact hinv.le s hs
         ·rw [← hinv.sim, hsb, show T - sumTo' nx n = (T - (sumTo' nx n + 1)) + 1 by omega, sim_step hsn])
        have HS : Hid (((T : Int) - (sumTo' nx n : Int)) - 1 = (T : Int) - (sumTo' (bump nx t) n : Int) ∧ sumTo' nx n + 1 ≤ T) := Lib.hid ⟨by omega, by omega⟩
        obtain ⟨sm, hsm⟩ : ∃ sm, sumTo' nx n = sm := ⟨_, rfl⟩
        have hsT : sm + 1 ≤ T := by omega
        have HSM := Lib.hid hsm
        rw [hsm] at HS ⊢
        unfold atV at hup
        dsimp only at hup
        clear hnw hm2 ho2 r2 p2 hcan hsn hsb hsl hrd hsm hinv hr1 hr1w c0 cn d0 d1
        go_wp2
        go_region
        all_goals
         go_wp2
         go_step3
         rw [HS.out.1]
         refine ⟨rfl, B, HB.out, HOK, atLabel_of _ _ rfl HINV.out⟩
       ·rw [decide_eq_false hrd]
        have HNO : Hid (∀ r, r < t + 1 → ¬ can p nx r) := Lib.hid fun r hr => by
         rcases Nat.lt_or_ge r t with h1 | h1
         ·exact hno.out r h1
         ·obtain rfl : r = t := by omega
          intro h2
          have h3 := h2.2
          rw [HY.out, HX.out] at h3
          exact hrd h3
        clear hrd
        go_wp2
        go_roundw
        case rel => exact ⟨t + 1, by omega, by go_num, rfl, HNO, hinv⟩
        case measure => simp [intOf]; omega
      ·have HNO : Hid (∀ r, r < t + 1 → ¬ can p nx r) := Lib.hid fun r hr => by
        rcases Nat.lt_or_ge r t with h1 | h1
        ·exact hno.out r h1
        ·obtain rfl : r = t := by omega
         intro h2
         have h3 := h2.1
         rw [HY.out, HL1.out] at h3
         exact hyl h3
       have e1 : decide (y < n1') = false := decide_eq_false hyl
       clear hyl
       go_wp2
       go_roundw
       case rel => exact ⟨t + 1, by omega, by go_num, rfl, HNO, hinv⟩
       case measure => simp [intOf]; omega
     ·obtain rfl : n = t := by omega
      have hns : nextS p nx = none := nextS_none (by rw [HL.out]; exact hno.out)
      have hran : ranOf p T = nx := by rw [← hinv.sim, sim_stop hns]
      have hlen : ∀ s, s < n → (px p s).length = 2 * m := fun s hs => by have := (actsFault_ok (HOK.out s hs)).2.2.1; omega
      have hle2 : ∀ s, s < n → nx s ≤ 2 * m := fun s hs => by rw [← hlen s hs]; exact hinv.le s hs
      have hsf := sum_full (c := 2 * m) (n := n) hle2
      have hsl := sum_le (c := 2 * m) (n := n) hle2
      rw [HT.out] at hsf hsl
      have hst : stageFault m p = 0 := stageFault_none (by rw [HL.out]; exact HOK.out)
      have hT2 : 2 * ((m : Int).toNat) * p.length = T := by rw [HL.out, Int.toNat_natCast]; exact HT.out
      have HBEL := Lib.hid hinv.below
      obtain ⟨sm, hsm⟩ : ∃ sm, sumTo' nx n = sm := ⟨_, rfl⟩
      rw [hsm] at hsf hsl ⊢
      by_cases hall : sm = T
      ·have HF : Hid (planFault m p = 0) := Lib.hid (planFault_0 HNB.out hst (by
        rw [hT2, hran]
        intro s hs
        rw [HL.out] at hs
        rw [hsf.1 hall s hs, hlen s hs]))
       have e1 : ((T : Int) - (sm : Int) > 0) = False := by simp; omega
       have e2 : (sm < T) = False := by simp; omega
       clear hns hran hlen hle2 hsf hsl hst hT2 hsm hall hinv
       go_wp2
       simp only [Exit.jump]
       go_ret
       exact ⟨by rw [HF.out, errV_nil rfl]; rfl, HBEL.out⟩
      ·have HF : Hid (planFault m p = 6) := Lib.hid (planFault_6 HNB.out hst (by
        rw [hT2, hran]
        intro h1
        refine hall (hsf.2 fun s hs => ?_)
        rw [h1 s (by rw [HL.out]; exact hs), hlen s hs]))
       have e1 : (T : Int) - (sm : Int) > 0 := by omega
       have e2 : (sm < T) = True := by simp; omega
       clear hns hran hlen hle2 hsf hsl hst hT2 hsm hall hinv
       go_wp2
       simp only [Exit.jump]
       go_ret
       exact ⟨by rw [HF.out, errV_err (by decide)]; rfl, HBEL.out⟩
 ·rintro a' w' ⟨B, hB, HOK, u, nx, l, rfl, hinv⟩
  have HB := Lib.hid hB
  have hbr := hB
  clear hB hmk hmm hTw
  go_wp2
  go_loopw [11, 57] (fun c i wr => ∃ t : Nat, t ≤ n ∧ i = .int .i64 t ∧ c = .int .i64 ((T : Int) - (sumTo' nx n : Int)) ∧ Hid (∀ r, r < t → ¬ can p nx r) ∧ PlanInv p T n w wr B nx l) (fun _ i _ => n - (intOf i).toNat)
  case atStart => exact ⟨0, Nat.zero_le _, rfl, rfl, Lib.hid fun r hr => absurd hr (Nat.not_lt_zero _), hinv⟩
  case round =>
   clear hinv
   obtain ⟨t, ht, rfl, rfl, hno, hinv⟩ := hrel
   by_cases hlt : t < n
   ·obtain ⟨a1, n1', k1', b1, o1, c0, hr1⟩ := plan_cell (h.keep hinv.below) hlt
    have hL1 := hr1.len
    have hmx1 := hr1.max
    unfold maxLen at hmx1
    obtain ⟨y, hy⟩ : ∃ y, nx t = y := ⟨_, rfl⟩
    have hle := hinv.le t hlt
    rw [hy, hL1] at hle
    have HY := Lib.hid hy
    have HL1 := Lib.hid hL1
    have cn := hinv.row.icell (k := t) (by rw [upto_length]; exact hlt)
    rw [upto_ix hlt, hy] at cn
    clear hy hL1
    by_cases hyl : y < n1'
    ·obtain rfl := hr1.ptr (by omega)
     obtain ⟨d0, d1⟩ := act_cells hr1 hyl
     obtain ⟨⟨x0, x1⟩, hx⟩ : ∃ x, ax (px p t) y = x := ⟨_, rfl⟩
     rw [hx] at d0 d1
     dsimp only at d0 d1
     have hok1 := (actsFault_ok (HOK.out t hlt))
     have hact : actOk 12 (x0, x1) := by
      have h1 := hok1.1 y (by rw [HL1.out]; exact hyl)
      rw [hx] at h1
      exact ⟨h1.1, h1.2.1, by have := h1.2.2; omega⟩
     have HX := Lib.hid hx
     have HND : Hid ((x0, x1) ∉ (px p t).take (nx t)) := Lib.hid (fun hm => nodup_no (l := px p t) (t := y) (by rw [HL1.out]; exact hyl) (by rw [hx, ← HY.out]; exact hm) hok1.2.1)
     have HACT := Lib.hid hact
     clear hx hok1 hact
     have hr1w := hr1
     go_wp2_with fail
     refine (ready_any n t (x0, x1) (B + 1) B l _ hinv.did (by omega) (by omega) HACT.out).mono ?_
     rintro e w1 ⟨rfl, hb1⟩
     rw [readyL_is hinv.is HL.out hlt]
     replace hinv := hinv.keep hb1
     by_cases hrd : rdy p nx t (x0, x1)
     ·rw [decide_eq_true hrd]
      have hnw := hinv.is.not (by obtain ⟨es, c, _, _, _, _, h6, _⟩ := hinv.did.2; exact h6) (by rw [HL.out]; exact hlt) HND.out
      obtain ⟨kl, hkl⟩ := at_keyOf (x := ((t : Int), (x0, x1))) (by dsimp only; omega) HACT.out
      obtain ⟨w2, hup, hm2, ho2⟩ := hinv.did.2.drew.update at_keyed Try.underlying170 zero_int atV_inj hkl hnw 1
      have cd := hinv.did.1.cell 0
      obtain ⟨e0, e1⟩ := act_cells (hr1w.keep hb1) hyl
      rw [HX.out] at e0 e1
      dsimp only at e0 e1
      have r2 : Box w2 (B + 1 + 1) ((upto (fun s => (nx s : Int)) n).map (Value.int .i64)) 3 := Box.only hinv.row.drew ho2 (by omega)
      have p2 : Box w2 (B + 1) [.map (some B)] 170 := Box.only hinv.did.1.drew ho2 (by omega)
      have cr := r2.icell (k := t) (by rw [upto_length]; exact hlt)
      rw [upto_ix hlt, HY.out] at cr
      have fr := r2.thawed t
      have hcan : can p nx t := ⟨by rw [HY.out, HL1.out]; exact hyl, by rw [HY.out, HX.out]; exact hrd⟩
      have hsn : nextS p nx = some t := nextS_some hcan (by rw [HL.out]; exact hlt) hno.out
      have hsb := sum_bump (nx := nx) (s := t) (n := n) hlt
      have hsl : sumTo' (bump nx t) n ≤ T := by
       have h1 : ∀ s, s < n → bump nx t s ≤ 2 * m := fun s hs => by
        have h3 := (actsFault_ok (HOK.out s hs)).2.2.1
        have h4 := hinv.le s hs
        unfold bump
        by_cases e : s = t
        ·rw [if_pos e]
         subst e
         rw [HY.out]
         have := HL1.out
         omega
        ·rw [if_neg e]; omega
       have h2 := sum_le (c := 2 * m) h1
       rw [HT.out] at h2
       exact h2
      have HINV : Hid (PlanInv p T n w (w2.setCell ⟨B + 1 + 1, t, none⟩ (.int .i64 ((y : Int) + 1))) B (bump nx t) (l ++ [(((t : Int), (x0, x1)), 1)])) := Lib.hid (by
       refine ⟨⟨p2.far (by dsimp only; omega) _, hm2.far (by dsimp only; omega) _⟩, ?_, ?_, ?_, ?_, ?_⟩
       ·have h1 := r2.iset t ((y : Int) + 1)
        rw [upto_set hlt] at h1
        have h2 : upto (fun q => if q = t then (y : Int) + 1 else (nx q : Int)) n = upto (fun s => (bump nx t s : Int)) n := upto_congr fun q hq => by
         unfold bump
         by_cases e : q = t
         ·rw [if_pos e, if_pos e, HY.out]; push_cast; rfl
         ·rw [if_neg e, if_neg e]
        rw [h2] at h1
        exact h1
       ·exact (ho2.below ((by repeat (first | (with_reducible first | exact Below.refl _ _ | exact hinv.below | refine Below.al ?_ _ | refine Below.drN ?_ _ | refine Below.drew ?_ | refine Below.sx ?_ _) | exact Below.refl _ _ | exact hinv.below)) : Below w.heap.size w w1.drew) HB.out (by have := hinv.below.size; simpa using this)).setCell (by have := HB.out; dsimp only; omega) _
       ·have h1 := hinv.is.snoc (s := t) (by rw [HL.out]; exact hlt) (by rw [HY.out, HL1.out]; exact hyl) (by rw [HY.out, HX.out]; exact hnw)
        rw [HY.out, HX.out] at h1
        exact h1
       ·intro s hs
        unfold bump
        by_cases e : s = t
        ·rw [if_pos e, HY.out]
         subst e
         have := HL1.out
         omega
        ·rw [if_neg e]; exact hinv.le s hs
       ·rw [← hinv.sim, hsb, show T - sumTo' nx n = (T - (sumTo' nx n + 1)) + 1 by omega, sim_step hsn])
      have HS : Hid (((T : Int) - (sumTo' nx n : Int)) - 1 = (T : Int) - (sumTo' (bump nx t) n : Int) ∧ sumTo' nx n + 1 ≤ T) := Lib.hid ⟨by omega, by omega⟩
      obtain ⟨sm, hsm⟩ : ∃ sm, sumTo' nx n = sm := ⟨_, rfl⟩
      have hsT : sm + 1 ≤ T := by omega
      have HSM := Lib.hid hsm
      rw [hsm] at HS ⊢
      unfold atV at hup
      dsimp only at hup
      clear hnw hm2 ho2 r2 p2 hcan hsn hsb hsl hrd hsm hinv hr1 hr1w c0 cn d0 d1
      go_wp2
      go_region
      all_goals
       go_wp2
       go_step3
       rw [HS.out.1]
       refine ⟨rfl, ⟨B, HB.out, HOK, atLabel_of _ _ rfl HINV.out⟩, by have h1 := HS.out; have h2 := HSM.out; simp [intOf]; omega⟩
     ·rw [decide_eq_false hrd]
      have HNO : Hid (∀ r, r < t + 1 → ¬ can p nx r) := Lib.hid fun r hr => by
       rcases Nat.lt_or_ge r t with h1 | h1
       ·exact hno.out r h1
       ·obtain rfl : r = t := by omega
        intro h2
        have h3 := h2.2
        rw [HY.out, HX.out] at h3
        exact hrd h3
      clear hrd
      go_wp2
      go_roundw
      case rel => exact ⟨t + 1, by omega, by go_num, rfl, HNO, hinv⟩
      case measure => simp [intOf]; omega
    ·have HNO : Hid (∀ r, r < t + 1 → ¬ can p nx r) := Lib.hid fun r hr => by
      rcases Nat.lt_or_ge r t with h1 | h1
      ·exact hno.out r h1
      ·obtain rfl : r = t := by omega
       intro h2
       have h3 := h2.1
       rw [HY.out, HL1.out] at h3
       exact hyl h3
     have e1 : decide (y < n1') = false := decide_eq_false hyl
     clear hyl
     go_wp2
     go_roundw
     case rel => exact ⟨t + 1, by omega, by go_num, rfl, HNO, hinv⟩
     case measure => simp [intOf]; omega
   ·obtain rfl : n = t := by omega
    have hns : nextS p nx = none := nextS_none (by rw [HL.out]; exact hno.out)
    have hran : ranOf p T = nx := by rw [← hinv.sim, sim_stop hns]
    have hlen : ∀ s, s < n → (px p s).length = 2 * m := fun s hs => by have := (actsFault_ok (HOK.out s hs)).2.2.1; omega
    have hle2 : ∀ s, s < n → nx s ≤ 2 * m := fun s hs => by rw [← hlen s hs]; exact hinv.le s hs
    have hsf := sum_full (c := 2 * m) (n := n) hle2
    have hsl := sum_le (c := 2 * m) (n := n) hle2
    rw [HT.out] at hsf hsl
    have hst : stageFault m p = 0 := stageFault_none (by rw [HL.out]; exact HOK.out)
    have hT2 : 2 * ((m : Int).toNat) * p.length = T := by rw [HL.out, Int.toNat_natCast]; exact HT.out
    have HBEL := Lib.hid hinv.below
    obtain ⟨sm, hsm⟩ : ∃ sm, sumTo' nx n = sm := ⟨_, rfl⟩
    rw [hsm] at hsf hsl ⊢
    by_cases hall : sm = T
    ·have HF : Hid (planFault m p = 0) := Lib.hid (planFault_0 HNB.out hst (by
      rw [hT2, hran]
      intro s hs
      rw [HL.out] at hs
      rw [hsf.1 hall s hs, hlen s hs]))
     have e1 : ((T : Int) - (sm : Int) > 0) = False := by simp; omega
     have e2 : (sm < T) = False := by simp; omega
     clear hns hran hlen hle2 hsf hsl hst hT2 hsm hall hinv
     go_wp2
     simp only [Exit.jump]
     go_ret
     exact ⟨by rw [HF.out, errV_nil rfl]; rfl, HBEL.out⟩
    ·have HF : Hid (planFault m p = 6) := Lib.hid (planFault_6 HNB.out hst (by
      rw [hT2, hran]
      intro h1
      refine hall (hsf.2 fun s hs => ?_)
      rw [h1 s (by rw [HL.out]; exact hs), hlen s hs]))
     have e1 : (T : Int) - (sm : Int) > 0 := by omega
     have e2 : (sm < T) = True := by simp; omega
     clear hns hran hlen hle2 hsf hsl hst hT2 hsm hall hinv
     go_wp2
     simp only [Exit.jump]
     go_ret
     exact ⟨by rw [HF.out, errV_err (by decide)]; rfl, HBEL.out⟩
end Go.Proofs.Ytchngeagnlngaaa
end
