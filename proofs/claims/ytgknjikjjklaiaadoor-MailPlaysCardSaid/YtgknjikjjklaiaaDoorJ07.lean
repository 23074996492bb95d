/- Texts joined: Clone. -/
import Derived.Test.YtgknjikjjklaiaaDoorJ06
import Derived.Test.YtgknjikjjklaiaaDoorJ03
import Derived.BigQuiet
import Derived.Lib.Hide
import Derived.Lib.SliceRun
import Derived.Deep.DrawnRows
section
set_option linter.unusedVariables false
set_option linter.unusedSimpArgs false
namespace Go.Proofs.YtgknjikjjklaiaaDoor
open Go.RowKit Gal
attribute [local go_sem ↓] Go.wp_at_zero Go.wp_at_succ
set_option maxRecDepth 100000 in
set_option maxHeartbeats 1000000 in
theorem cloned_any (a : Option Addr) (n cap b off : Nat) (xs : List Int) (w : World) (h : IntsAt w a n cap b off xs) (hn : n * 8 ≤ 140737488355328) :
  Calls Tryd.prog 38 #[.slice a n cap] w fun e w' => ∃ a' cap' b', e = .returned (.slice a' n cap') ∧ (0 < n → w.heap.size ≤ b') ∧ IntsAt w' a' n cap' b' 0 xs ∧ Below w.heap.size w w' := by
 obtain ⟨i0, hi, hz0, hz1, hz2⟩ := info_parts info_int'
 have hnil := fun W => Lib.run_eql_slice_nil (P := Tryd.prog) W 22 3 a n cap 0 0 Tryd.underlying22
 cases a with
 | none =>
  have h0 : n = 0 := by
   rcases Nat.eq_zero_or_pos n with h0 | h0
   ·exact h0
   ·have := h.ptr h0; cases this
  subst h0
  go_enter Tryd.func38, Tryd.ntmps38
  go_wp2
  go_ret
  exact ⟨none, 0, b, rfl, fun h0 => absurd h0 (Nat.lt_irrefl _), ⟨h.len, Nat.le_refl _, Nat.zero_le _, fun h0 => absurd h0 (Nat.lt_irrefl _), fun h0 => absurd h0 (Nat.lt_irrefl _), fun i hi => absurd hi (Nat.not_lt_zero _)⟩, Below.refl _ _⟩
 | some A =>
  have hl := h.len
  have hmx := h.max
  have H := Lib.hid h
  clear h
  have HL := Lib.hid hl
  clear hl
  go_enter Tryd.func38, Tryd.ntmps38
  go_wp2_with (at_builtin; refine wpList_append_own _ rfl (.tmp 5) (.tmp 6) 22 rfl w.heap.size 3 i0 (.int .i64 0) 1 8 Tryd.underlying22 hi hz0 hz1 hz2 rfl (by decide) (.slice (some ⟨w.heap.size, 0, none⟩) 0 0) 0 [] rfl ?c1 A n cap (xs.map (Value.int .i64)) rfl ?c2 ?c3 ?c4 ?c5 ?c6 ?c7 ?_)
  case c1 => exact own_made w _ _ _ _ #[] 0 rfl (Nat.le_refl _) (Nat.zero_le _) rfl
  case c2 => rw [List.length_map, HL.out, Nat.mul_one]
  case c3 => exact (H.out.alloc _).news
  case c4 => exact ints_one xs
  case c5 => omega
  case c6 => omega
  case c7 => simp
  intro v' w' hown hgrow _
  go_wp2
  go_ret
  obtain ⟨a', c', b', rfl, hbb, hin⟩ := IntsAt.of_own hown
  exact ⟨a', c', b', rfl, hbb, hin, Below.grown (((Below.refl _ w)).al _) hgrow (by simp) (fun k hk => by simp [Value.ownBlock] at hk; omega)⟩
end Go.Proofs.YtgknjikjjklaiaaDoor
end
