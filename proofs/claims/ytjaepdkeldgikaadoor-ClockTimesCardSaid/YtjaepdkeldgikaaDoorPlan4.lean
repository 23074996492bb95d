/- Contracts of package plan: waves and turns. -/
import Derived.Test.YtjaepdkeldgikaaDoorPlan3
import Derived.Test.YtjaepdkeldgikaaDoorPPlan3
set_option linter.unusedVariables false
set_option linter.unusedSimpArgs false
set_option linter.unusedSectionVars false
namespace Gal
open Go
/-- no blocks -/
def noB (b : Nat) : Prop := False
/-- one stage's acts, and where they lie -/
abbrev RowD := (Nat × Nat) × List ActD
def Form.hdr : Form RowD where
  size := 1
  reads := fun w F cs x => cs = [.slice (some ⟨x.1.1, 0, none⟩) x.2.length x.1.2] ∧ RowAt Form.act w F (some ⟨x.1.1, 0, none⟩) x.2.length x.1.2 x.1.1 0 x.2 ∧ (0 < x.2.length → ∃ cur T, w.heap[x.1.1]? = some (.cells cur T (0, 0)))
  len := fun h => by rw [h.1]; rfl
  one := fun h u hu => by rw [h.1] at hu; simp at hu; rw [hu]; rfl
  wide := fun hF h => ⟨h.1, h.2.1.wide hF, h.2.2⟩
  keep := fun hF h => ⟨h.1, h.2.1.kept hF, fun hl => by
    obtain ⟨cur, T, hc⟩ := h.2.2 hl
    exact ⟨cur, T, (hF _ (h.2.1.blk hl) (h.2.1.lt hl)).trans hc⟩⟩
theorem hdr_plan {w : World} {F : Nat → Prop} {a : Option Addr} {n k b o : Nat} {hs : List RowD} (h : RowAt Form.hdr w F a n k b o hs) : RowAt Form.plan w F a n k b o (hs.map (·.2)) := by
  refine ⟨by rw [List.length_map]; exact h.len, h.le, h.maxc, h.ptr, h.lt, h.blk, fun i x hx => ?_⟩
  rw [List.getElem?_map] at hx
  cases hh : hs[i]? with
  | none => rw [hh] at hx; cases hx
  | some r =>
    rw [hh] at hx
    simp only [Option.map_some, Option.some.injEq] at hx
    subst hx
    obtain ⟨cs, ⟨rfl, h1, _⟩, h2⟩ := h.cell i r hh
    exact ⟨_, ⟨_, _, _, _, _, rfl, h1⟩, h2⟩
/-- each stage's acts lie behind those of the stages ahead -/
def Rising (hs : List RowD) : Prop := (hs.map (·.1.1)).Pairwise (· < ·)
theorem rising_snoc {hs : List RowD} {x : RowD} (h : Rising hs) (hx : ∀ y ∈ hs, y.1.1 < x.1.1) : Rising (hs ++ [x]) := by
  unfold Rising
  rw [List.map_append]
  refine List.pairwise_append.2 ⟨h, by simp, fun a ha b hb => ?_⟩
  simp only [List.map_cons, List.map_nil, List.mem_singleton] at hb
  obtain ⟨y, hy, rfl⟩ := List.mem_map.1 ha
  rw [hb]
  exact hx y hy
end Gal
namespace Go.Proofs.YtjaepdkeldgikaaDoor
open Go.RowKit Gal Go.Maps
set_option maxRecDepth 100000
set_option maxHeartbeats 4000000
theorem info_act : (Tryd.prog.info? 73).map (fun i => (i.zero, i.size, i.bytes)) = some (some (.agg #[.int .i64 0, .int .i64 0]), 2, 16) := by kernel_rfl
theorem info_acts : (Tryd.prog.info? 43).map (fun i => (i.zero, i.size, i.bytes)) = some (some (.slice none 0 0), 1, 24) := by kernel_rfl
theorem planFits_any (S M : Int) (w : World) : Calls Tryd.prog 54 #[.int .i64 S, .int .i64 M] w fun e w' => e = .returned (.bool (decide ((1 ≤ S ∧ S ≤ 6) ∧ 1 ≤ M ∧ M ≤ 12))) ∧ w = w' := by
  obtain ⟨d, hd⟩ : ∃ d, decide ((1 ≤ S ∧ S ≤ 6) ∧ 1 ≤ M ∧ M ≤ 12) = d := ⟨_, rfl⟩
  rw [hd]
  have HD := Lib.hid hd
  clear hd
  by_cases g1 : S ≥ 1
  · by_cases g2 : S ≤ 6
    · by_cases g3 : M ≥ 1
      · have hv : decide (M ≤ 12) = d := by rw [← HD.out]; exact decide_eq_decide.2 ⟨fun h => ⟨⟨g1, g2⟩, g3, h⟩, fun h => h.2.2⟩
        have HV := Lib.hid hv
        clear hv
        go_enter Tryd.func54, Tryd.ntmps54
        go_wp2
        go_ret
        exact ⟨by rw [← HV.out]; rfl, rfl⟩
      · have HV : Hid (d = false) := Lib.hid (by rw [← HD.out]; exact decide_eq_false (by omega))
        have e1 : (M ≥ 1) = False := by simp; omega
        clear g3
        go_enter Tryd.func54, Tryd.ntmps54
        go_wp2
        go_ret
        exact ⟨by rw [HV.out]; rfl, rfl⟩
    · have HV : Hid (d = false) := Lib.hid (by rw [← HD.out]; exact decide_eq_false (by omega))
      have e1 : (S ≤ 6) = False := by simp; omega
      clear g2
      go_enter Tryd.func54, Tryd.ntmps54
      go_wp2
      go_ret
      exact ⟨by rw [HV.out]; rfl, rfl⟩
  · have HV : Hid (d = false) := Lib.hid (by rw [← HD.out]; exact decide_eq_false (by omega))
    have e1 : (S ≥ 1) = False := by simp; omega
    clear g1
    go_enter Tryd.func54, Tryd.ntmps54
    go_wp2
    go_ret
    exact ⟨by rw [HV.out]; rfl, rfl⟩
theorem wave1_any (s M : Int) (q : Nat) (T : TypeId) (w : World) (h : Box w q [.int .i64 M] T) : Calls Tryd.prog 35 #[.int .i64 s, .pointer (some ⟨q, 0, none⟩)] w fun e w' => e = .returned (.int .i64 M) ∧ w = w' := by
  have c := h.cell 0
  clear h
  go_enter Tryd.func35, Tryd.ntmps35
  go_wp2
  go_ret
  exact ⟨rfl, rfl⟩
theorem turns1_any (s S : Nat) (q : Nat) (T : TypeId) (w : World) (h : Box w q [.int .i64 S] T) (hs : s < S) (hS : S ≤ 6) : Calls Tryd.prog 38 #[.int .i64 s, .pointer (some ⟨q, 0, none⟩)] w fun e w' => e = .returned (.int .i64 ((S - 1 - s : Nat) : Int)) ∧ w = w' := by
  have c := h.cell 0
  have HV : Hid (((S - 1 - s : Nat) : Int) = (S : Int) - 1 - (s : Int)) := Lib.hid (by omega)
  clear h
  go_enter Tryd.func38, Tryd.ntmps38
  go_wp2
  go_ret
  exact ⟨by rw [HV.out]; rfl, rfl⟩
end Go.Proofs.YtjaepdkeldgikaaDoor
