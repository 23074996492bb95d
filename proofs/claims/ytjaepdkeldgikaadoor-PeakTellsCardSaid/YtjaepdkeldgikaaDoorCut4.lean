/- Contracts of package cut: the question that Best's search asks, and the search. -/
import Derived.Test.YtjaepdkeldgikaaDoorCut3
import Derived.Deep.RegionHeld3
import Derived.Deep.RegionWith
import Derived.Deep.DeepMust
set_option linter.unusedVariables false
set_option linter.unusedSimpArgs false
set_option linter.unusedSectionVars false
namespace Go.Proofs.YtjaepdkeldgikaaDoor
open Go.RowKit Gal
set_option maxRecDepth 100000
set_option maxHeartbeats 2000000
theorem best2_any (xs : List Int) (L : Int) (a : Option Addr) (n k b o pn pc pt ps s : Nat) (T T' : TypeId) (w : World) (hN : Box w pn [.int .i64 n] 3) (hC : Box w pc [.slice a n k] 39) (hT : Box w pt [.func (.func 48) #[] #[.pointer (some ⟨pn, 0, none⟩), .pointer (some ⟨pc, 0, none⟩)]] T) (hS : Box w ps [.int .i64 s] T')
    (h : IntsAt w a n k b o xs) (hn : 1 ≤ n ∧ n ≤ 12) (hx : ∀ i, 0 ≤ ix xs i ∧ ix xs i ≤ 1000000) (hL : 0 ≤ L ∧ L ≤ 12000000) :
    Calls Tryd.prog 50 #[.int .i64 L, .pointer (some ⟨pt, 0, none⟩), .pointer (some ⟨ps, 0, none⟩)] w fun e w' => e = .returned (.bool (decide (tl (ix xs) n L n ≤ s))) ∧ Below w.heap.size w w' := by
  obtain ⟨m0, hm0⟩ : ∃ m0, tl (ix xs) n L n = m0 := ⟨_, rfl⟩
  have HM := Lib.hid hm0
  have HT : Hid (ix (upto (tailAt (ix xs) n L n) (n + 1)) 0 = (m0 : Int)) := Lib.hid (by rw [upto_ix (by omega), ← hm0]; unfold tailAt; rw [if_pos (by omega)]; rfl)
  rw [hm0]
  have ct : w.cell? ⟨pt, 0, none⟩ = some (.func (.func 48) #[] #[.pointer (some ⟨pn, 0, none⟩), .pointer (some ⟨pc, 0, none⟩)]) := (hT.cell 0).trans rfl
  have cs : w.cell? ⟨ps, 0, none⟩ = some (.int .i64 s) := (hS.cell 0).trans rfl
  clear hm0
  go_enter Tryd.func50, Tryd.ntmps50
  go_wp2_with fail
  go_region_with ((go_at_call 48; go_must (refine (tails_any xs L a n k b o pn pc _ hN.drew hC.drew h.drew hn hx hL).mono ?_); go_must (rintro e w1 ⟨q, rfl, hq, Bq, hb1⟩); go_must (have cq := Bq.icell (k := 0) (by rw [upto_length]; exact Nat.succ_pos _)); go_must (rw [HT.out] at cq); go_must (have cs1 : w1.cell? ⟨ps, 0, none⟩ = some (.int .i64 s) := ((hS.drew.keep hb1).cell 0).trans rfl)))
  all_goals
    go_wp2
    go_ret
    exact ⟨rfl, (by repeat (first | fail | (with_reducible exact Below.refl _ _) | (with_reducible refine Below.al ?_ _) | (with_reducible refine Below.drN ?_ _) | (with_reducible refine Below.drew ?_) | (with_reducible refine Below.st ?_ ?_ _; rotate_left 1; (first | (dsimp only; omega) | omega | (simp; omega) | simp)) | (with_reducible refine Below.go ?_ hb1) | exact Below.refl _ _))⟩
theorem search_any (p : Nat → Bool) (n : Nat) (c0 c1 : Value) (w : World) (hn : n ≤ 12000000)
    (hf : ∀ (i : Nat) (W : World), i < n → Below w.heap.size w W → Calls Tryd.prog 50 #[.int .i64 i, c0, c1] W fun e w' => e = .returned (.bool (p i)) ∧ Below w.heap.size w w')
    (hmono : ∀ a b, a ≤ b → b < n → p a = true → p b = true) :
    Calls Tryd.prog 49 #[.int .i64 n, .func (.func 50) #[] #[c0, c1]] w fun e w' => e = .returned (.int .i64 ((List.range n).countP (fun i => !p i) : Nat)) ∧ Below w.heap.size w w' := by
  have HF := Lib.hid hf
  have HM := Lib.hid hmono
  obtain ⟨cnt, hcnt⟩ : ∃ cnt, (List.range n).countP (fun i => !p i) = cnt := ⟨_, rfl⟩
  rw [hcnt]
  have CN := Lib.hid hcnt
  clear hf hmono hcnt
  go_enter Tryd.func49, Tryd.ntmps49
  go_wp2
  go_loopw [5, 6] (fun s5 s6 wr => ∃ (lo hi : Nat), s5 = .int .i64 lo ∧ s6 = .int .i64 hi ∧ lo ≤ hi ∧ hi ≤ n ∧ Hid ((∀ t, t < lo → p t = false) ∧ (∀ t, hi ≤ t → t < n → p t = true)) ∧ Below w.heap.size w wr) (fun s5 s6 _ => (intOf s6 - intOf s5).toNat)
  case atStart => exact ⟨0, n, rfl, rfl, Nat.zero_le _, Nat.le_refl _, Lib.hid ⟨fun t ht => absurd ht (Nat.not_lt_zero _), fun t h1 h2 => absurd h2 (by omega)⟩, (by repeat (first | fail | (with_reducible exact Below.refl _ _) | (with_reducible refine Below.al ?_ _) | (with_reducible refine Below.drN ?_ _) | (with_reducible refine Below.drew ?_) | (with_reducible refine Below.st ?_ ?_ _; rotate_left 1; (first | (dsimp only; omega) | omega | (simp; omega) | simp)) | exact Below.refl _ _))⟩
  case round =>
    obtain ⟨lo, hi, rfl, rfl, hlh, hin, I, hbr⟩ := hrel
    by_cases hlt : lo < hi
    · have hc := HF.out ((lo + hi) / 2) wr (by omega) hbr
      obtain ⟨m, hm⟩ : ∃ m, (lo + hi) / 2 = m := ⟨_, rfl⟩
      have hmi : ((lo : Int) + (hi : Int)) / 2 = (m : Int) := by omega
      have hm1 : lo ≤ m := by omega
      have hm2 : m < hi := by omega
      rw [hm] at hc
      cases hp : p m
      · rw [hp] at hc
        have HP := Lib.hid hp
        have HC := Lib.hid hc
        clear hp hm hc
        go_wp2_with fail
        refine HC.out.mono ?_
        rintro e w1 ⟨rfl, hb1⟩
        clear hmi
        go_wp2
        go_roundw
        case rel => exact ⟨m + 1, hi, by go_num, rfl, by omega, hin, Lib.hid ⟨fun t ht => (by
            cases h : p t with
            | false => rfl
            | true => have := HM.out t m (by omega) (by omega) h; rw [HP.out] at this; cases this), I.out.2⟩, hb1⟩
        case measure => simp [intOf]; omega
      · rw [hp] at hc
        have HP := Lib.hid hp
        have HC := Lib.hid hc
        clear hp hm hc
        go_wp2_with fail
        refine HC.out.mono ?_
        rintro e w1 ⟨rfl, hb1⟩
        clear hmi
        go_wp2
        go_roundw
        case rel => exact ⟨lo, m, rfl, rfl, by omega, by omega, Lib.hid ⟨I.out.1, fun t ht htn => HM.out m t ht htn HP.out⟩, hb1⟩
        case measure => simp [intOf]; omega
    · obtain rfl : hi = lo := by omega
      have ecnt : cnt = hi := by
        rw [← CN.out]
        exact count_least I.out.1 I.out.2 hin
      subst ecnt
      go_wp2
      go_ret
      exact ⟨rfl, hbr⟩
end Go.Proofs.YtjaepdkeldgikaaDoor
