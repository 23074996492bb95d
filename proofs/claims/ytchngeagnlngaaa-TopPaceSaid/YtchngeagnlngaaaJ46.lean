/- Texts joined: PPlan3, Plan4. -/
import Derived.Test.YtchngeagnlngaaaJ44
import Derived.Test.YtchngeagnlngaaaJ45
section
set_option linter.unusedVariables false
set_option linter.unusedSimpArgs false
namespace Gal
def fwdL (a b : Nat) : List ActD := (List.range (b - a)).map fun i => ((1 : Int), ((a + i : Nat) : Int))
def nxtA (f M : Nat) (m : Nat) : Nat := if m = 0 then 0 else min (f + m) M
def stageTo (f M : Nat) : Nat → List ActD
 | 0 => []
 | m + 1 => stageTo f M m ++ fwdL (nxtA f M m) (nxtA f M (m + 1)) ++ [(2, (m : Int))]
def aheadOf (S M : Nat) (f : Nat → Nat) : PlanD := (List.range S).map fun s => stageTo (f s) M M
def waveOf (S M : Nat) : PlanD := aheadOf S M fun _ => M
def turnsOf (S M : Nat) : PlanD := aheadOf S M fun s => S - 1 - s
theorem fwdL_nil (a : Nat) : fwdL a a = [] := by simp [fwdL]
theorem fwdL_snoc {a q : Nat} (h : a ≤ q) : fwdL a (q + 1) = fwdL a q ++ [(1, (q : Int))] := by
 unfold fwdL
 rw [show q + 1 - a = (q - a) + 1 by omega, List.range_succ, List.map_append]
 simp
 omega
theorem nxtA_mono {f M m : Nat} (h : m < M) : nxtA f M m ≤ nxtA f M (m + 1) := by unfold nxtA; split <;> (try rw [if_neg (by omega)]) <;> omega
theorem nxtA_next {f M m : Nat} : nxtA f M (m + 1) = min (f + 1 + m) M := by unfold nxtA; rw [if_neg (by omega)]; omega
theorem nxtA_le {f M m : Nat} : nxtA f M m ≤ M := by unfold nxtA; split <;> omega
theorem stageTo_length {f M : Nat} : ∀ {m : Nat}, m ≤ M → (stageTo f M m).length = nxtA f M m + m
 | 0, _ => rfl
 | m + 1, h => by
  rw [stageTo, List.length_append, List.length_append, stageTo_length (by omega)]
  have := nxtA_mono (f := f) (show m < M by omega)
  simp [fwdL]
  omega
theorem aheadOf_length (S M : Nat) (f : Nat → Nat) : (aheadOf S M f).length = S := by simp [aheadOf]
theorem aheadOf_pos {S M : Nat} {f : Nat → Nat} (hM : 1 ≤ M) : ∀ l ∈ aheadOf S M f, 0 < l.length := fun l hl => by
 obtain ⟨s, _, rfl⟩ := List.mem_map.1 hl
 rw [stageTo_length (Nat.le_refl _)]
 omega
end Gal
end
section
set_option linter.unusedVariables false
set_option linter.unusedSimpArgs false
set_option linter.unusedSectionVars false
namespace Gal
open Go
def noB (b : Nat) : Prop := False
abbrev RowD := (Nat × Nat) × List ActD
def Form.hdr : Form RowD where
 size := 1
 reads := fun w F cs x => cs = [.slice (some ⟨x.1.1, 0, none⟩) x.2.length x.1.2] ∧ RowAt Form.act w F (some ⟨x.1.1, 0, none⟩) x.2.length x.1.2 x.1.1 0 x.2 ∧ (0 < x.2.length → ∃ cur T, w.heap[x.1.1]? = some (.cells cur T (0, 0)))
 len := fun h => by rw [h.1]; rfl
 one := fun h u hu => by rw [h.1] at hu; simp at hu; rw [hu]; rfl
 wide := fun hF h => ⟨h.1, h.2.1.wide hF, h.2.2⟩
 keep := fun hF h => ⟨h.1, h.2.1.kept hF, fun hl => by
  obtain ⟨cur, T, hc⟩ := h.2.2 hl
  exact ⟨cur, T, (hF _ (h.2.1.blk hl) (h.2.1.lt hl)).trans hc⟩⟩
theorem hdr_plan {w : World} {F : Nat → Prop} {a : Option Addr} {n k b o : Nat} {hs : List RowD} (h : RowAt Form.hdr w F a n k b o hs) : RowAt Form.plan w F a n k b o (hs.map (·.2)) := by
 refine ⟨by rw [List.length_map]; exact h.len, h.le, h.maxc, h.ptr, h.lt, h.blk, fun i x hx => ?_⟩
 rw [List.getElem?_map] at hx
 cases hh : hs[i]? with
 | none => rw [hh] at hx; cases hx
 | some r =>
  rw [hh] at hx
  simp only [Option.map_some, Option.some.injEq] at hx
  subst hx
  obtain ⟨cs, ⟨rfl, h1, _⟩, h2⟩ := h.cell i r hh
  exact ⟨_, ⟨_, _, _, _, _, rfl, h1⟩, h2⟩
def Rising (hs : List RowD) : Prop := (hs.map (·.1.1)).Pairwise (· < ·)
theorem rising_snoc {hs : List RowD} {x : RowD} (h : Rising hs) (hx : ∀ y ∈ hs, y.1.1 < x.1.1) : Rising (hs ++ [x]) := by
 unfold Rising
 rw [List.map_append]
 refine List.pairwise_append.2 ⟨h, by simp, fun a ha b hb => ?_⟩
 simp only [List.map_cons, List.map_nil, List.mem_singleton] at hb
 obtain ⟨y, hy, rfl⟩ := List.mem_map.1 ha
 rw [hb]
 exact hx y hy
end Gal
namespace Go.Proofs.Ytchngeagnlngaaa
open Go.RowKit Gal Go.Maps
set_option maxRecDepth 100000
set_option maxHeartbeats 4000000
theorem info_act : (Try.prog.info? 122).map (fun i => (i.zero, i.size, i.bytes)) = some (some (.agg #[.int .i64 0, .int .i64 0]), 2, 16) := by kernel_rfl
theorem info_acts : (Try.prog.info? 115).map (fun i => (i.zero, i.size, i.bytes)) = some (some (.slice none 0 0), 1, 24) := by kernel_rfl
theorem planFits_any (S M : Int) (w : World) : Calls Try.prog 75 #[.int .i64 S, .int .i64 M] w fun e w' => e = .returned (.bool (decide ((1 ≤ S ∧ S ≤ 6) ∧ 1 ≤ M ∧ M ≤ 12))) ∧ w = w' := by
 obtain ⟨d, hd⟩ : ∃ d, decide ((1 ≤ S ∧ S ≤ 6) ∧ 1 ≤ M ∧ M ≤ 12) = d := ⟨_, rfl⟩
 rw [hd]
 have HD := Lib.hid hd
 clear hd
 by_cases g1 : S ≥ 1
 ·by_cases g2 : S ≤ 6
  ·by_cases g3 : M ≥ 1
   ·have hv : decide (M ≤ 12) = d := by rw [← HD.out]; exact decide_eq_decide.2 ⟨fun h => ⟨⟨g1, g2⟩, g3, h⟩, fun h => h.2.2⟩
    have HV := Lib.hid hv
    clear hv
    go_enter Try.func75, Try.ntmps75
    go_wp2
    go_ret
    exact ⟨by rw [← HV.out]; rfl, rfl⟩
   ·have HV : Hid (d = false) := Lib.hid (by rw [← HD.out]; exact decide_eq_false (by omega))
    have e1 : (M ≥ 1) = False := by simp; omega
    clear g3
    go_enter Try.func75, Try.ntmps75
    go_wp2
    go_ret
    exact ⟨by rw [HV.out]; rfl, rfl⟩
  ·have HV : Hid (d = false) := Lib.hid (by rw [← HD.out]; exact decide_eq_false (by omega))
   have e1 : (S ≤ 6) = False := by simp; omega
   clear g2
   go_enter Try.func75, Try.ntmps75
   go_wp2
   go_ret
   exact ⟨by rw [HV.out]; rfl, rfl⟩
 ·have HV : Hid (d = false) := Lib.hid (by rw [← HD.out]; exact decide_eq_false (by omega))
  have e1 : (S ≥ 1) = False := by simp; omega
  clear g1
  go_enter Try.func75, Try.ntmps75
  go_wp2
  go_ret
  exact ⟨by rw [HV.out]; rfl, rfl⟩
theorem wave1_any (s M : Int) (q : Nat) (T : TypeId) (w : World) (h : Box w q [.int .i64 M] T) : Calls Try.prog 48 #[.int .i64 s, .pointer (some ⟨q, 0, none⟩)] w fun e w' => e = .returned (.int .i64 M) ∧ w = w' := by
 have c := h.cell 0
 clear h
 go_enter Try.func48, Try.ntmps48
 go_wp2
 go_ret
 exact ⟨rfl, rfl⟩
theorem turns1_any (s S : Nat) (q : Nat) (T : TypeId) (w : World) (h : Box w q [.int .i64 S] T) (hs : s < S) (hS : S ≤ 6) : Calls Try.prog 47 #[.int .i64 s, .pointer (some ⟨q, 0, none⟩)] w fun e w' => e = .returned (.int .i64 ((S - 1 - s : Nat) : Int)) ∧ w = w' := by
 have c := h.cell 0
 have HV : Hid (((S - 1 - s : Nat) : Int) = (S : Int) - 1 - (s : Int)) := Lib.hid (by omega)
 clear h
 go_enter Try.func47, Try.ntmps47
 go_wp2
 go_ret
 exact ⟨by rw [HV.out]; rfl, rfl⟩
end Go.Proofs.Ytchngeagnlngaaa
end
