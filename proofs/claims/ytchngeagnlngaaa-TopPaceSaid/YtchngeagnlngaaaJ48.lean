/- Texts joined: Plan6, PPlan4, PPlan6, Mp2. -/
import Derived.Test.YtchngeagnlngaaaJ47
import Derived.Test.YtchngeagnlngaaaJ46
import Derived.Test.YtchngeagnlngaaaJ42
section
set_option linter.unusedVariables false
set_option linter.unusedSimpArgs false
set_option linter.unusedSectionVars false
namespace Go.Proofs.Ytchngeagnlngaaa
open Go.RowKit Gal Go.Maps
set_option maxRecDepth 100000
set_option maxHeartbeats 4000000
def PlanNew (w w' : World) (S : Nat) (v : Value) (p : PlanD) : Prop :=
 ∃ a k b hs, v = .slice a S k ∧ hs.map (·.2) = p ∧ Rising hs ∧ (∀ y ∈ hs, w.heap.size ≤ y.1.1 ∧ y.1.1 ≠ b) ∧ RowAt Form.hdr w' anyB a S k b 0 hs ∧ w.heap.size ≤ b
theorem planNew_row {w w' : World} {S : Nat} {v : Value} {p : PlanD} (h : PlanNew w w' S v p) : ∃ a k b, v = .slice a S k ∧ w.heap.size ≤ b ∧ RowAt Form.plan w' anyB a S k b 0 p := by
 obtain ⟨a, k, b, hs, rfl, h1, _, _, h4, h5⟩ := h
 have := hdr_plan h4
 rw [h1] at this
 exact ⟨a, k, b, rfl, h5, this⟩
theorem ahead_bad (S M : Int) (f : Value) (w : World) (h : ¬ ((1 ≤ S ∧ S ≤ 6) ∧ 1 ≤ M ∧ M ≤ 12)) : Calls Try.prog 46 #[.int .i64 S, .int .i64 M, f] w fun e w' => e = .returned (.tuple #[.slice none 0 0, errV 1]) ∧ w = w' := by
 have HB := Lib.hid h
 clear h
 rw [errV_err (by decide)]
 go_enter Try.func46, Try.ntmps46
 go_wp2_with fail
 refine (planFits_any S M w).mono ?_
 rintro e w1 ⟨rfl, rfl⟩
 rw [decide_eq_false HB.out]
 go_wp2
 go_ret2
 exact ⟨rfl, rfl⟩
theorem planWave_ok (S M : Nat) (w : World) (hS : 1 ≤ S ∧ S ≤ 6) (hM : 1 ≤ M ∧ M ≤ 12) : Calls Try.prog 16 #[.int .i64 S, .int .i64 M] w fun e w' => ∃ v, e = .returned (.tuple #[v, .nilIface]) ∧ PlanNew w w' S v (waveOf S M) ∧ Below w.heap.size w w' := by
 go_enter Try.func16, Try.ntmps16
 go_wp2_with fail
 refine (aheadWave_ok S M w.heap.size 3 _ (Box.new _ _ _) hS hM).mono ?_
 rintro e w1 ⟨a, k, b, hs, rfl, h1, h2, h3, h4, h5, hb1⟩
 go_wp2
 go_ret2
 exact ⟨_, rfl, ⟨a, k, b, hs, rfl, h1, h2, fun y hy => ⟨by have := (h3 y hy).1; simp at this; omega, (h3 y hy).2⟩, h4, by simp at h5; omega⟩, (Below.x1 hb1)⟩
theorem planTurns_ok (S M : Nat) (w : World) (hS : 1 ≤ S ∧ S ≤ 6) (hM : 1 ≤ M ∧ M ≤ 12) : Calls Try.prog 15 #[.int .i64 S, .int .i64 M] w fun e w' => ∃ v, e = .returned (.tuple #[v, .nilIface]) ∧ PlanNew w w' S v (turnsOf S M) ∧ Below w.heap.size w w' := by
 go_enter Try.func15, Try.ntmps15
 go_wp2_with fail
 refine (aheadTurns_ok S M w.heap.size 3 _ (Box.new _ _ _) hS hM).mono ?_
 rintro e w1 ⟨a, k, b, hs, rfl, h1, h2, h3, h4, h5, hb1⟩
 go_wp2
 go_ret2
 exact ⟨_, rfl, ⟨a, k, b, hs, rfl, h1, h2, fun y hy => ⟨by have := (h3 y hy).1; simp at this; omega, (h3 y hy).2⟩, h4, by simp at h5; omega⟩, (Below.x1 hb1)⟩
theorem planWave_bad (S M : Int) (w : World) (h : ¬ ((1 ≤ S ∧ S ≤ 6) ∧ 1 ≤ M ∧ M ≤ 12)) : Calls Try.prog 16 #[.int .i64 S, .int .i64 M] w fun e w' => e = .returned (.tuple #[.slice none 0 0, errV 1]) ∧ Below w.heap.size w w' := by
 have HB := Lib.hid h
 clear h
 go_enter Try.func16, Try.ntmps16
 go_wp2_with fail
 refine (ahead_bad S M _ _ HB.out).mono ?_
 rintro e w1 ⟨rfl, rfl⟩
 rw [errV_err (by decide)]
 go_wp2
 go_ret2
 exact ⟨rfl, Below.x0⟩
theorem planTurns_bad (S M : Int) (w : World) (h : ¬ ((1 ≤ S ∧ S ≤ 6) ∧ 1 ≤ M ∧ M ≤ 12)) : Calls Try.prog 15 #[.int .i64 S, .int .i64 M] w fun e w' => e = .returned (.tuple #[.slice none 0 0, errV 1]) ∧ Below w.heap.size w w' := by
 have HB := Lib.hid h
 clear h
 go_enter Try.func15, Try.ntmps15
 go_wp2_with fail
 refine (ahead_bad S M _ _ HB.out).mono ?_
 rintro e w1 ⟨rfl, rfl⟩
 rw [errV_err (by decide)]
 go_wp2
 go_ret2
 exact ⟨rfl, Below.x0⟩
theorem planCheck_any (p : PlanD) (M : Int) (a : Option Addr) (n k b o : Nat) (F : Nat → Prop) (w : World) (h : RowAt Form.plan w F a n k b o p) :
  Calls Try.prog 49 #[.slice a n k, .int .i64 M] w fun e w' => e = .returned (errV (planFault M p)) ∧ Below w.heap.size w w' := by
 by_cases hb : planBad M p
 ·exact planCheck_bad p M a n k b o F w h hb
 ·obtain ⟨m, rfl⟩ : ∃ m : Nat, M = m := ⟨M.toNat, by unfold planBad at hb; omega⟩
  exact planCheck_ok p m a n k b o F w h hb
end Go.Proofs.Ytchngeagnlngaaa
end
section
set_option linter.unusedVariables false
set_option linter.unusedSimpArgs false
namespace Gal
def timed (p : PlanD) (τ : Nat → ActD → Nat) (s i : Nat) : Prop :=
 (i = 0 ∨ τ s (ax (px p s) (i - 1)) < τ s (ax (px p s) i)) ∧
 (if (ax (px p s) i).1 = 1 then (s = 0 ∨ (ax (px p s) i ∈ px p (s - 1) ∧ τ (s - 1) (ax (px p s) i) < τ s (ax (px p s) i)))
  else (((1, (ax (px p s) i).2) ∈ px p s ∧ τ s (1, (ax (px p s) i).2) < τ s (ax (px p s) i)) ∧ (s + 1 = p.length ∨ (ax (px p s) i ∈ px p (s + 1) ∧ τ (s + 1) (ax (px p s) i) < τ s (ax (px p s) i)))))
instance (p : PlanD) (τ : Nat → ActD → Nat) (s i : Nat) : Decidable (timed p τ s i) := by unfold timed; exact inferInstance
def Timed (p : PlanD) (τ : Nat → ActD → Nat) : Prop := ∀ s, s < p.length → ∀ i, i < (px p s).length → timed p τ s i
instance (p : PlanD) (τ : Nat → ActD → Nat) : Decidable (Timed p τ) := by unfold Timed; exact inferInstance
section
variable {p : PlanD} {τ : Nat → ActD → Nat} {nx : Nat → Nat}
theorem timed_mono (h : Timed p τ) {s : Nat} (hs : s < p.length) : ∀ {i j : Nat}, i ≤ j → j < (px p s).length → τ s (ax (px p s) i) ≤ τ s (ax (px p s) j)
  | i, 0, hi, _ => by obtain rfl : i = 0 := by omega
                      exact Nat.le_refl _
  | i, j + 1, hi, hj => by
    rcases Nat.lt_or_ge i (j + 1) with h1 | h1
    · have h2 := timed_mono h hs (show i ≤ j by omega) (by omega)
      have h3 := (h s hs (j + 1) hj).1
      rcases h3 with h3 | h3
      · omega
      · rw [Nat.add_sub_cancel] at h3; omega
    · obtain rfl : i = j + 1 := by omega
      exact Nat.le_refl _
theorem mem_ax {l : List ActD} {a : ActD} (h : a ∈ l) : ∃ j, j < l.length ∧ ax l j = a := by
 obtain ⟨j, hj, rfl⟩ := List.mem_iff_getElem.1 h
 refine ⟨j, hj, ?_⟩
 have := ax_get hj
 rw [List.getElem?_eq_getElem hj] at this
 simpa using this.symm
theorem ax_mem_take {l : List ActD} {j n : Nat} (h : j < l.length) (hn : j < n) : ax l j ∈ l.take n := by
 have h1 := ax_get h
 exact List.mem_of_getElem? (by rw [List.getElem?_take_of_lt hn]; exact h1)
theorem dep_done (h : Timed p τ) {s : Nat} (hs : s < p.length) {a : ActD} (ha : a ∈ px p s) (hn : a ∉ (px p s).take (nx s)) : nx s < (px p s).length ∧ τ s (ax (px p s) (nx s)) ≤ τ s a := by
 obtain ⟨j, hj, rfl⟩ := mem_ax ha
 have h1 : nx s ≤ j := by
  rcases Nat.lt_or_ge j (nx s) with h2 | h2
  ·exact absurd (ax_mem_take hj h2) hn
  ·exact h2
 exact ⟨by omega, timed_mono h hs h1 hj⟩
theorem not_stuck (h : Timed p τ) (hno : ∀ s, s < p.length → ¬ can p nx s) : ∀ (v s : Nat), s < p.length → nx s < (px p s).length → τ s (ax (px p s) (nx s)) = v → False := fun v => by
 induction v using Nat.strongRecOn with
 | ind v ih =>
  intro s hs hl hv
  have ht := (h s hs (nx s) hl).2
  have hr : ¬ rdy p nx s (ax (px p s) (nx s)) := fun h1 => hno s hs ⟨hl, h1⟩
  unfold rdy at hr
  by_cases k1 : (ax (px p s) (nx s)).1 = 1
  ·rw [if_pos k1] at ht hr
   rcases ht with h1 | ⟨h1, h2⟩
   ·exact hr (Or.inl h1)
   ·by_cases h3 : ax (px p s) (nx s) ∈ (px p (s - 1)).take (nx (s - 1))
    ·exact hr (Or.inr h3)
    ·obtain ⟨h4, h5⟩ := dep_done h (by omega) h1 h3
     exact ih _ (by omega) (s - 1) (by omega) h4 rfl
  ·rw [if_neg k1] at ht hr
   obtain ⟨⟨a1, a2⟩, b⟩ := ht
   by_cases h3 : (1, (ax (px p s) (nx s)).2) ∈ (px p s).take (nx s)
   ·rcases b with b | ⟨b1, b2⟩
    ·exact hr ⟨h3, Or.inl b⟩
    ·by_cases h4 : ax (px p s) (nx s) ∈ (px p (s + 1)).take (nx (s + 1))
     ·exact hr ⟨h3, Or.inr h4⟩
     ·have hs1 : s + 1 < p.length := by
       rcases Nat.lt_or_ge (s + 1) p.length with h5 | h5
       ·exact h5
       ·exfalso
        unfold px at b1
        rw [List.getElem?_eq_none h5] at b1
        exact absurd b1 List.not_mem_nil
      obtain ⟨h5, h6⟩ := dep_done h hs1 b1 h4
      exact ih _ (by omega) (s + 1) hs1 h5 rfl
   ·obtain ⟨h5, h6⟩ := dep_done h hs a1 h3
    exact ih _ (by omega) s hs h5 rfl
theorem sim_done (h : Timed p τ) {c : Nat} (hlen : ∀ s, s < p.length → (px p s).length = c) : ∀ (f : Nat) (nx : Nat → Nat), (∀ s, s < p.length → nx s ≤ c) → c * p.length ≤ sumTo' nx p.length + f → doneAll p (sim p f nx)
 | 0, nx, hle, hf => fun s hs => by
  have h1 := sum_le (n := p.length) hle
  rw [hlen s hs]
  exact (sum_full (n := p.length) hle).1 (by omega) s hs
 | f + 1, nx, hle, hf => by
  by_cases hn : ∀ s, s < p.length → ¬ can p nx s
  ·rw [sim_stop (nextS_none hn)]
   intro s hs
   have h1 := hle s hs
   have h2 := hlen s hs
   rcases Nat.lt_or_ge (nx s) (px p s).length with h3 | h3
   ·exact (not_stuck h hn _ s hs h3 rfl).elim
   ·omega
  ·cases hx : nextS p nx with
   | none =>
    exfalso
    refine hn fun s hs => ?_
    have := List.find?_eq_none.1 hx s (List.mem_range.2 hs)
    simpa using this
   | some s =>
    rw [sim_step hx]
    have h1 := List.find?_some hx
    have h2 := List.mem_range.1 (List.mem_of_find?_eq_some hx)
    simp only [decide_eq_true_eq] at h1
    refine sim_done h hlen f (bump nx s) (fun r hr => ?_) (by rw [sum_bump h2]; omega)
    unfold bump
    by_cases e : r = s
    ·rw [if_pos e]
     have := h1.1
     rw [hlen s h2] at this
     omega
    ·rw [if_neg e]; exact hle r hr
theorem timed_ok {m : Nat} (hb : ¬ planBad m p) (hs : ∀ s, s < p.length → actsFault m (px p s) = 0) (h : Timed p τ) : planFault m p = 0 := by
 refine planFault_0 hb (stageFault_none hs) ?_
 rw [Int.toNat_natCast]
 refine sim_done h (c := 2 * m) (fun s hs' => ?_) _ _ (fun s _ => Nat.zero_le _) (by rw [sum_zero]; omega)
 have := (actsFault_ok (hs s hs')).2.2.1
 omega
end
def tauWave (S M : Nat) (s : Nat) (a : ActD) : Nat := if a.1 = 1 then a.2.toNat + s else M + S - 1 + (S - 1 - s) + a.2.toNat
def tauTurns (S M : Nat) (s : Nat) (a : ActD) : Nat := if a.1 = 1 then (if a.2.toNat ≤ S - 1 - s then s + a.2.toNat else s + 2 * a.2.toNat) else 2 * S - 1 - s + 2 * a.2.toNat
def stagesOk (m : Int) (p : PlanD) : Prop := ∀ s, s < p.length → actsFault m (px p s) = 0
instance (m : Int) (p : PlanD) : Decidable (stagesOk m p) := by unfold stagesOk; exact inferInstance
set_option maxRecDepth 100000
theorem waves_timed : ∀ S : Fin 6, ∀ M : Fin 12, Timed (waveOf (S.val + 1) (M.val + 1)) (tauWave (S.val + 1) (M.val + 1)) := by decide +kernel
theorem turns_timed : ∀ S : Fin 6, ∀ M : Fin 12, Timed (turnsOf (S.val + 1) (M.val + 1)) (tauTurns (S.val + 1) (M.val + 1)) := by decide +kernel
theorem waves_stages : ∀ S : Fin 6, ∀ M : Fin 12, stagesOk ((M.val + 1 : Nat) : Int) (waveOf (S.val + 1) (M.val + 1)) := by decide +kernel
theorem turns_stages : ∀ S : Fin 6, ∀ M : Fin 12, stagesOk ((M.val + 1 : Nat) : Int) (turnsOf (S.val + 1) (M.val + 1)) := by decide +kernel
theorem wave_ok {S M : Nat} (hS : 1 ≤ S ∧ S ≤ 6) (hM : 1 ≤ M ∧ M ≤ 12) : planFault M (waveOf S M) = 0 := by
 have h1 := waves_timed ⟨S - 1, by omega⟩ ⟨M - 1, by omega⟩
 have h2 := waves_stages ⟨S - 1, by omega⟩ ⟨M - 1, by omega⟩
 simp only [show S - 1 + 1 = S by omega, show M - 1 + 1 = M by omega] at h1 h2
 exact timed_ok (by unfold planBad waveOf; rw [aheadOf_length]; omega) h2 h1
theorem turns_ok {S M : Nat} (hS : 1 ≤ S ∧ S ≤ 6) (hM : 1 ≤ M ∧ M ≤ 12) : planFault M (turnsOf S M) = 0 := by
 have h1 := turns_timed ⟨S - 1, by omega⟩ ⟨M - 1, by omega⟩
 have h2 := turns_stages ⟨S - 1, by omega⟩ ⟨M - 1, by omega⟩
 simp only [show S - 1 + 1 = S by omega, show M - 1 + 1 = M by omega] at h1 h2
 exact timed_ok (by unfold planBad turnsOf; rw [aheadOf_length]; omega) h2 h1
end Gal
end
section
set_option linter.unusedVariables false
set_option linter.unusedSimpArgs false
namespace Gal
/-! ### az0 many az0 there are -/
theorem len_le_of_subset {α : Type} [DecidableEq α] : ∀ {l m : List α}, l.Nodup → (∀ x ∈ l, x ∈ m) → l.length ≤ m.length
 | [], m, _, _ => Nat.zero_le _
 | a :: l, m, hn, hs => by
  obtain ⟨h1, h2⟩ := List.nodup_cons.1 hn
  have h3 := len_le_of_subset (m := m.erase a) h2 fun x hx => by
   have h4 : x ≠ a := fun e => h1 (e ▸ hx)
   exact (List.mem_erase_of_ne h4).2 (hs x (by simp [hx]))
  have h5 := List.length_erase_of_mem (hs a (by simp))
  have h6 : 0 < m.length := List.length_pos_of_mem (hs a (by simp))
  simp only [List.length_cons]
  omega
def allActs (M : Nat) : List ActD := (List.range M).map (fun (i : Nat) => ((1 : Int), (i : Int))) ++ (List.range M).map (fun (i : Nat) => ((2 : Int), (i : Int)))
theorem allActs_length (M : Nat) : (allActs M).length = 2 * M := by simp [allActs]; omega
theorem mem_allActs {M : Nat} {a : ActD} : a ∈ allActs M ↔ actOk M a := by
 unfold allActs actOk
 rw [List.mem_append, List.mem_map, List.mem_map]
 constructor
 ·rintro (⟨i, hi, rfl⟩ | ⟨i, hi, rfl⟩)
  ·have := List.mem_range.1 hi
   exact ⟨Or.inl rfl, by dsimp only; omega, by dsimp only; omega⟩
  ·have := List.mem_range.1 hi
   exact ⟨Or.inr rfl, by dsimp only; omega, by dsimp only; omega⟩
 ·rintro ⟨h1, h2, h3⟩
  rcases h1 with h1 | h1
  ·exact Or.inl ⟨a.2.toNat, List.mem_range.2 (by omega), Prod.ext (by dsimp only; omega) (by dsimp only; omega)⟩
  ·exact Or.inr ⟨a.2.toNat, List.mem_range.2 (by omega), Prod.ext (by dsimp only; omega) (by dsimp only; omega)⟩
theorem okTo_mem {M : Int} {l : List ActD} (h : okTo M l l.length) : ∀ a ∈ l, actOk M a := fun a ha => by
 obtain ⟨j, hj, rfl⟩ := mem_ax ha
 exact h j hj
theorem acts_full {M : Nat} {l : List ActD} (h : okTo M l l.length) (hn : l.Nodup) (hl : l.length = 2 * M) {a : ActD} (ha : actOk M a) : a ∈ l := by
 by_cases hm : a ∈ l
 ·exact hm
 ·exfalso
  have h1 := len_le_of_subset (l := a :: l) (m := allActs M) (List.nodup_cons.2 ⟨hm, hn⟩) fun x hx => by
   rcases List.mem_cons.1 hx with rfl | hx
   ·exact mem_allActs.2 ha
   ·exact mem_allActs.2 (okTo_mem h x hx)
  rw [allActs_length] at h1
  simp only [List.length_cons] at h1
  omega
/-! ### what is wrong with one stage, az0 the document says it -/
def twice (l : List ActD) (n : Nat) : Prop := ∃ i, i < n ∧ ∃ k, k < i ∧ ax l i = ax l k
theorem twice_iff {l : List ActD} : twice l l.length ↔ ¬ l.Nodup := by
 constructor
 ·rintro ⟨i, hi, k, hk, e⟩ hn
  refine nodup_no hi ?_ hn
  rw [e]
  exact ax_mem_take (by omega) hk
 ·intro h
  by_cases ht : twice l l.length
  ·exact ht
  ·exfalso
   refine h ?_
   have hall : ∀ t, t ≤ l.length → (l.take t).Nodup := fun t => by
    induction t with
    | zero => intro _; simp
    | succ t ih =>
     intro htl
     refine nodup_next (by omega) (ih (by omega)) fun hm => ?_
     obtain ⟨j, hj⟩ := List.getElem?_of_mem hm
     have hjt : j < t := by
      rcases Nat.lt_or_ge j t with h1 | h1
      ·exact h1
      ·rw [List.getElem?_eq_none (by rw [List.length_take]; omega)] at hj; cases hj
     rw [List.getElem?_take_of_lt hjt, ax_get (by omega)] at hj
     simp only [Option.some.injEq] at hj
     exact ht ⟨t, by omega, j, hjt, hj.symm⟩
   have := hall l.length (Nat.le_refl _)
   rwa [List.take_of_length_le (Nat.le_refl _)] at this
open Classical in
/-! ### whoever goes first -/
inductive Reach (p : PlanD) : (Nat → Nat) → Prop
  | start : Reach p fun _ => 0
  | step {nx : Nat → Nat} {s : Nat} : Reach p nx → s < p.length → can p nx s → Reach p (bump nx s)
section
variable {p : PlanD} {nx mx : Nat → Nat}
theorem mem_take_mono {l : List ActD} {a : ActD} {m n : Nat} (h : a ∈ l.take m) (hmn : m ≤ n) : a ∈ l.take n := (List.take_sublist_take_left hmn).subset h
theorem rdy_mono {s : Nat} {a : ActD} (hle : ∀ r, r < p.length → nx r ≤ mx r) (hs : s < p.length) (h : rdy p nx s a) : rdy p mx s a := by
 unfold rdy at h ⊢
 by_cases k1 : a.1 = 1
 ·rw [if_pos k1] at h ⊢
  rcases h with h | h
  ·exact Or.inl h
  ·exact Or.inr (mem_take_mono h (hle _ (by omega)))
 ·rw [if_neg k1] at h ⊢
  obtain ⟨h1, h2⟩ := h
  refine ⟨mem_take_mono h1 (hle _ hs), ?_⟩
  rcases h2 with h2 | h2
  ·exact Or.inl h2
  ·by_cases h3 : s + 1 < p.length
   ·exact Or.inr (mem_take_mono h2 (hle _ h3))
   ·exact Or.inl (by omega)
theorem reach_le (hst : ∀ s, s < p.length → ¬ can p mx s) (h : Reach p nx) : ∀ r, r < p.length → nx r ≤ mx r := by
 induction h with
 | start => exact fun r _ => Nat.zero_le _
 | @step nx s _ hs hc ih =>
  intro r hr
  unfold bump
  by_cases e : r = s
  ·subst e
   rw [if_pos rfl]
   rcases Nat.lt_or_ge (nx r) (mx r) with h1 | h1
   ·exact h1
   ·exfalso
    have h2 := ih r hr
    have h3 : nx r = mx r := by omega
    refine hst r hr ⟨by rw [← h3]; exact hc.1, ?_⟩
    rw [← h3]
    exact rdy_mono ih hr hc.2
  ·rw [if_neg e]; exact ih r hr
theorem sim_reach : ∀ (f : Nat) (nx : Nat → Nat), Reach p nx → Reach p (sim p f nx)
 | 0, nx, h => h
 | f + 1, nx, h => by
  cases hx : nextS p nx with
  | none => rw [sim_stop hx]; exact h
  | some s =>
   rw [sim_step hx]
   have h1 := List.find?_some hx
   simp only [decide_eq_true_eq] at h1
   exact sim_reach f _ (.step h (List.mem_range.1 (List.mem_of_find?_eq_some hx)) h1)
theorem reach_bd (h : Reach p nx) : ∀ s, s < p.length → nx s ≤ (px p s).length := by
 induction h with
 | start => exact fun s _ => Nat.zero_le _
 | @step nx s _ hs hc ih =>
  intro r hr
  unfold bump
  by_cases e : r = s
  ·subst e; rw [if_pos rfl]; exact hc.1
  ·rw [if_neg e]; exact ih r hr
theorem sim_stuck {c : Nat} (hlen : ∀ s, s < p.length → (px p s).length = c) : ∀ (f : Nat) (nx : Nat → Nat), Reach p nx → c * p.length ≤ sumTo' nx p.length + f → ∀ s, s < p.length → ¬ can p (sim p f nx) s
 | 0, nx, hr, hf => fun s hs hc => by
  have hle : ∀ s, s < p.length → nx s ≤ c := fun s hs => by rw [← hlen s hs]; exact reach_bd hr s hs
  have h1 := sum_le (n := p.length) hle
  have h2 := (sum_full (n := p.length) hle).1 (by omega) s hs
  have h3 := hc.1
  rw [hlen s hs] at h3
  change nx s < c at h3
  omega
 | f + 1, nx, hr, hf => by
  cases hx : nextS p nx with
  | none =>
   rw [sim_stop hx]
   intro s hs hc
   have := List.find?_eq_none.1 hx s (List.mem_range.2 hs)
   simp only [decide_eq_true_eq] at this
   exact this hc
  | some s =>
   rw [sim_step hx]
   have h1 := List.find?_some hx
   simp only [decide_eq_true_eq] at h1
   have h2 := List.mem_range.1 (List.mem_of_find?_eq_some hx)
   exact sim_stuck hlen f _ (.step hr h2 h1) (by rw [sum_bump h2]; omega)
theorem stuck_is {m : Nat} (hs : ∀ s, s < p.length → actsFault m (px p s) = 0) (hr : Reach p nx) (hst : ∀ s, s < p.length → ¬ can p nx s) : ∀ s, s < p.length → ranOf p (2 * m * p.length) s = nx s := fun s hs' => by
 have hlen : ∀ s, s < p.length → (px p s).length = 2 * m := fun s h1 => by have := (actsFault_ok (hs s h1)).2.2.1; omega
 have h1 := sim_stuck hlen (2 * m * p.length) _ Reach.start (by rw [sum_zero]; omega)
 have h2 := reach_le h1 hr s hs'
 have h3 := reach_le hst (sim_reach (2 * m * p.length) _ Reach.start) s hs'
 unfold ranOf
 omega
def refRdy (p : PlanD) (nx : Nat → Nat) (s : Nat) (a : ActD) : Prop := if a.1 = 2 then (s + 1 = p.length ∨ a ∈ (px p (s + 1)).take (nx (s + 1))) else (s = 0 ∨ a ∈ (px p (s - 1)).take (nx (s - 1)))
theorem refRdy_is {m : Int} {s : Nat} (hf : actsFault m (px p s) = 0) (hl : nx s < (px p s).length) : refRdy p nx s (ax (px p s) (nx s)) ↔ rdy p nx s (ax (px p s) (nx s)) := by
 obtain ⟨h1, h2, h3, h4⟩ := actsFault_ok hf
 unfold refRdy rdy
 have hk := (h1 (nx s) hl).1
 rcases hk with hk | hk
 ·rw [if_neg (by omega), if_pos hk]
 ·rw [if_pos hk, if_neg (by omega)]
  constructor
  ·intro h5
   refine ⟨?_, h5⟩
   have h6 := h4 (nx s) hl hk
   rw [take_ax hl] at h6
   rcases List.mem_append.1 h6 with h7 | h7
   ·exact h7
   ·simp only [List.mem_singleton] at h7
    have h8 := congrArg Prod.fst h7
    dsimp only at h8
    omega
  ·exact fun h5 => h5.2
end
end Gal
end
section
set_option linter.unusedVariables false
set_option linter.unusedSimpArgs false
set_option linter.unusedSectionVars false
namespace Gal
open Go Go.RowKit Go.Maps Go.ChangeMaps
section
variable {α : Type} [DecidableEq α]
def hasK (l : List (α × Int)) (a : α) : Bool := l.any fun p => decide (p.1 = a)
theorem hasK_true {l : List (α × Int)} {a : α} : hasK l a = true ↔ ∃ p ∈ l, p.1 = a := by simp [hasK]
theorem hasK_yes {l : List (α × Int)} {a : α} (h : ∃ p ∈ l, p.1 = a) : hasK l a = true := hasK_true.2 h
theorem hasK_no {l : List (α × Int)} {a : α} (h : ∀ p ∈ l, p.1 ≠ a) : hasK l a = false := by
 cases he : hasK l a with
 | false => rfl
 | true => obtain ⟨p, hp, e⟩ := hasK_true.1 he; exact absurd e (h p hp)
variable {P : Program} {t k e : TypeId} {kf : α → Value} {w : World} {b : Nat} {l : List (α × Int)}
variable (K : Keyed P k) (ht : P.underlying t = some (.map k e)) (hz : ∀ w, (zeroValue e).run P w = .ok (.int .i64 0) w) (hkf : ∀ {x y : α}, kf x = kf y → x = y)
include K ht hz hkf
theorem MapIs.lookup_ok (h : MapIs P k kf w b l) {a : α} {kl : Lit} (hkey : keyOf P k (kf a) = some kl) : (Instr.lookup t (.map (some b)) (kf a) true).run P w = .ok (.tuple #[.int .i64 (look l a), .bool (hasK l a)]) w := by
 obtain ⟨es, c, hb, he, h1, h2, h3, h4⟩ := h
 rcases K.find w hkey es.toList (keys_of K ht hz hkf he h4) with ⟨g1, g2⟩ | ⟨j, e0, g1, g2, g3⟩
 ·have hno := no_key K ht hz hkf he g2
  rw [look_none hno, hasK_no hno]
  simp [Instr.lookup, run_underlying ht, MapKept.run_getObj_map hb, K.check w _ hkey, g1, hz, Result.andThen]
 ·obtain ⟨p, hp, q1, q2⟩ := mem_of_entry K ht hz hkf he g2
  have hpa := hkf (q1.symm.trans g3)
  rw [look_some h3 hp hpa, ← q2, hasK_yes ⟨p, hp, hpa⟩]
  simp [Instr.lookup, run_underlying ht, MapKept.run_getObj_map hb, K.check w _ hkey, g1, Result.andThen]
end
end Gal
end
