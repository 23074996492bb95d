/- Texts joined: Back1. -/
import Derived.Test.YtgknjikjjklaiaaJ02
import Derived.Test.YtgknjikjjklaiaaJ05
import Derived.Test.YtgknjikjjklaiaaJ16
import Derived.Test.YtgknjikjjklaiaaJ09
import Derived.Test.YtgknjikjjklaiaaJ31
import Derived.Test.YtgknjikjjklaiaaJ03
section
set_option linter.unusedVariables false
set_option linter.unusedSimpArgs false
namespace Gal
open Go
def cellV (w : World) (b i : Nat) : Value := (w.cell? ⟨b, i, none⟩).getD undef
theorem cellV_eq {w : World} {b i : Nat} {v : Value} (h : w.cell? ⟨b, i, none⟩ = some v) : cellV w b i = v := by unfold cellV; rw [h]; rfl
def layCV (w : World) (b o i : Nat) : Value := .agg #[cellV w b (o + i * 7), cellV w b (o + i * 7 + 1), cellV w b (o + i * 7 + 2), cellV w b (o + i * 7 + 3), cellV w b (o + i * 7 + 4), cellV w b (o + i * 7 + 5), cellV w b (o + i * 7 + 6)]
theorem layCV_eq {w : World} {b o i : Nat} {v0 v1 v2 v3 v4 v5 v6 : Value} (h0 : w.cell? ⟨b, o + i * 7, none⟩ = some v0) (h1 : w.cell? ⟨b, o + i * 7 + 1, none⟩ = some v1) (h2 : w.cell? ⟨b, o + i * 7 + 2, none⟩ = some v2) (h3 : w.cell? ⟨b, o + i * 7 + 3, none⟩ = some v3)
  (h4 : w.cell? ⟨b, o + i * 7 + 4, none⟩ = some v4) (h5 : w.cell? ⟨b, o + i * 7 + 5, none⟩ = some v5) (h6 : w.cell? ⟨b, o + i * 7 + 6, none⟩ = some v6) : layCV w b o i = .agg #[v0, v1, v2, v3, v4, v5, v6] := by
 unfold layCV
 rw [cellV_eq h0, cellV_eq h1, cellV_eq h2, cellV_eq h3, cellV_eq h4, cellV_eq h5, cellV_eq h6]
end Gal
namespace Go.Proofs.Ytgknjikjjklaiaa
open Go.RowKit Go.Shelf Gal
attribute [local go_sem] Oper.semAt_some
set_option maxRecDepth 100000
set_option maxHeartbeats 2000000
theorem back1_stops (fn : Nat) (hn : 1 ≤ fn) (q : Nat) (S : Nat → Prop) (ls : List Lay) (F : Nat → Prop) (a : Option Addr) (n k b o : Nat) (w : World)
  (hq : Box w q [.slice a n k] 22) (hSq : ¬ S q) (h : RowAt Form.lay w F a n k b o ls) (hSb : 0 < n → ¬ S b) :
  SeqStopsK Fence.wide fn Try.prog 40 #[.pointer (some ⟨q, 0, none⟩)] (fun x : Fin n => #[Value.int .i64 x.val, layCV w b o x.val]) (Far S)
   (fun l => l.map (fun x => x.val) = descs n n) (fun l => ∃ t, t < n ∧ l.map (fun x => x.val) = descs n (t + 1)) n w := fun l J Jx W hW _ _ hY hJ0 => by
 have hmx := h.max
 unfold maxLen at hmx
 have Bq := hq.keep hW
 have HY := Lib.hid hY
 clear hY
 have Bqc := Bq.cell 0
 refine callsIn_of_wp Try.func40 rfl trivial ?_ rfl
 simp only [Try.ntmps40, List.size_toArray, List.length_cons, List.length_nil, Nat.reduceAdd, Nat.reduceSub, Array.replicate_succ, Array.replicate_zero, List.push_toArray, List.append_toArray, List.nil_append, List.cons_append]
 gi_wp2
 gi_loopw [3] (fun i wr => ∃ t : Nat, t ≤ n ∧ i = .int .i64 ((n : Int) - 1 - t) ∧ (∃ pre : List (Fin n), pre.map (fun x => x.val) = descs n t ∧ J pre wr) ∧ Far S W wr) (fun i _ => (intOf i + 1).toNat)
 case atStart => exact ⟨0, Nat.zero_le _, by simp, ⟨[], rfl, hJ0⟩, Far.refl _ _⟩
 case round =>
  obtain ⟨t, ht, rfl, ⟨pre, hpre, hJs⟩, hnx⟩ := hrel
  have HPRE := Lib.hid hpre
  have hpl : pre.length = t := by have := congrArg List.length hpre; rw [List.length_map, descs_length] at this; exact this
  have HPL := Lib.hid hpl
  clear hpre hpl
  have HJ := Lib.hid hJs
  clear hJs
  have Bqr := (Bq.farS hnx hSq).cell 0
  by_cases hlt : t < n
  ·have hN : 0 < n := by omega
   obtain rfl := h.ptr hN
   obtain ⟨m, hm⟩ : ∃ m : Nat, n = t + 1 + m := ⟨n - (t + 1), by omega⟩
   have hmn : m < n := by omega
   have hmI : (n : Int) - 1 - t = (m : Int) := by omega
   have hd : n - 1 - t = m := by omega
   obtain ⟨a4, n4, k4, b4, o4, a5, n5, k5, b5, o5, c0, c1, c2, c3, c4, c5, c6, x4, x5⟩ := lay_cells h hmn
   have hV := layCV_eq c0 c1 c2 c3 c4 c5 c6
   have hkeep : ∀ {i : Nat} {v : Value}, w.cell? ⟨b, i, none⟩ = some v → wr.cell? ⟨b, i, none⟩ = some v := fun {i} {v} e => (World.cell?_of_block (a := ⟨b, i, none⟩) (hnx.block b (Nat.lt_of_lt_of_le (h.lt hN) hW.size) (hSb hN))).trans ((hW.cell (p := ⟨b, i, none⟩) (h.lt hN)).trans e)
   replace c0 := hkeep c0
   replace c1 := hkeep c1
   replace c2 := hkeep c2
   replace c3 := hkeep c3
   replace c4 := hkeep c4
   replace c5 := hkeep c5
   replace c6 := hkeep c6
   obtain ⟨fn, tmps, assign, body, hy', hR⟩ := HY.out _ (⟨m, hmn⟩ : Fin n) wr HJ.out (by rw [HPL.out]; exact hlt)
   have HNX : Hid ((pre ++ [(⟨m, hmn⟩ : Fin n)]).map (fun x => x.val) = descs n (t + 1)) := Lib.hid (by rw [List.map_append, HPRE.out, descs_succ, hd]; rfl)
   dsimp only at hy'
   rw [hV] at hy'
   have HR := Lib.hid hR
   have HD := Lib.hid hd
   have HM := Lib.hid hm
   have h0m : (0 : Int) ≤ (m : Int) := by omega
   have hlm : (m : Int) < (n : Int) := by omega
   rw [hmI]
   clear hR hkeep hV x4 x5 hd hm hmI
   gi_wp2
   refine HR.out.mono ?_
   rintro e W3 (⟨rfl, hJ3, hk3⟩ | ⟨rfl, hJx3⟩)
   ·have HJ3 := Lib.hid hJ3
    clear hJ3
    gi_wp2
    go_roundw
    case rel => exact ⟨t + 1, by omega, by congr 1; have := HM.out; omega, ⟨_, HNX.out, HJ3.out⟩, hnx.trans hk3⟩
    case measure => simp [intOf]
   ·gi_wp2
    refine bodyPost_ret (results_none rfl _ _ _) rfl ?_
    exact ⟨⟨_, rfl⟩, .inr ⟨_, ⟨t, hlt, HNX.out⟩, hJx3⟩⟩
  ·have htn : t = n := by omega
   have hmI : (n : Int) - 1 - t = -1 := by omega
   rw [hmI]
   have HN2 : Hid (pre.map (fun x => x.val) = descs n n) := Lib.hid (by rw [HPRE.out, htn])
   clear hmI htn
   gi_wp2
   go_end0
   exact ⟨⟨_, rfl⟩, .inl ⟨_, HN2.out, HJ.out⟩⟩
end Go.Proofs.Ytgknjikjjklaiaa
end
