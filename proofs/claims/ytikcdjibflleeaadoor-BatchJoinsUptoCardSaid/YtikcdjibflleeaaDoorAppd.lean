/- Small laws for a list of numbers grown in a struct's field. -/
import Derived.Test.YtikcdjibflleeaaDoorGrads
import Derived.Test.YtikcdjibflleeaaDoorUni
import Derived.Test.YtikcdjibflleeaaDoorBaseR
set_option linter.unusedVariables false
set_option linter.unusedSimpArgs false
set_option linter.unusedSectionVars false
namespace Gal
theorem stack_ff {ms : List Mat} (h : firstFault ms ≠ 0) : stackFault ms = firstFault ms := by unfold stackFault; rw [if_pos h]
theorem stack_nil {ms : List Mat} (h : firstFault ms = 0) (h0 : ms.length = 0) : stackFault ms = 2 := by unfold stackFault; rw [if_neg (by simp [h]), if_pos h0]
theorem stack_cols {ms : List Mat} (h : firstFault ms = 0) (h0 : ms.length ≠ 0) (hc : ¬ sameCols ms) : stackFault ms = 2 := by unfold stackFault; rw [if_neg (by simp [h]), if_neg h0, if_pos hc]
theorem stack_rows {ms : List Mat} (h : firstFault ms = 0) (h0 : ms.length ≠ 0) (hc : sameCols ms) (hr : 24 < rowsTo ms ms.length) : stackFault ms = 3 := by unfold stackFault; rw [if_neg (by simp [h]), if_neg h0, if_neg (by simp [hc]), if_pos hr]
theorem stack_fine {ms : List Mat} (h : firstFault ms = 0) (h0 : ms.length ≠ 0) (hc : sameCols ms) (hr : ¬ 24 < rowsTo ms ms.length) : stackFault ms = 0 := by unfold stackFault; rw [if_neg (by simp [h]), if_neg h0, if_neg (by simp [hc]), if_neg hr]
theorem sameCols_of {ms : List Mat} {n : Nat} (hl : ms.length = n) (h : ∀ j, j < n → (mx ms j).cols = (mx ms 0).cols) : sameCols ms := fun j hj => h j (by omega)
def colsTo (ms : List Mat) (k : Nat) : Int := if k = 0 then 0 else (mx ms 0).cols
end Gal
namespace Gal
open Go Go.RowKit
theorem step_append_ints {P : Program} {w : World} {ops : Array Oper} {o : Oper} {a : Act} {K : Act → World → Prop} {Q : Exit → Act → World → Prop} {E : Prop} (hgd : o.guard = none) (s x : Operand) (t : TypeId)
    (ho : o.op = .call { callee := .builtin .append, args := #[s, x], argTypes := #[t, t] })
    (base : Nat) (e : TypeId) (i : TypeInfo) (ht : P.underlying t = some (.slice e)) (hi : P.info? e = some i) (hz : i.zero = some (.int .i64 0))
    (hsize : i.size = 1) (hby : i.bytes = 8)
    (v : Value) (n : Nat) (xs : List Int) (hs : a.eval s = v) (hown : w.ownsRow base e 1 v n (xs.map (Value.int .i64)))
    (a' : Option Addr) (n' cap' b' off' : Nat) (ys : List Int) (hx : a.eval x = .slice a' n' cap') (hy : IntsAt w a' n' cap' b' off' ys)
    (hbytes : (n + n') * 8 ≤ 140737488355328) (hbase : base ≤ w.heap.size)
    (h : ∀ v' w', w'.ownsRow base e 1 v' (n + n') ((xs ++ ys).map (Value.int .i64)) → w.grownBy w' v.ownBlock → K (a.put o.dst v') w') :
    if Region.wanted o (yielded ops a.tmps) = true then Oper.wp P o a w K Q else E := by
  rw [if_pos (by simp [Region.wanted, hgd])]
  exact wp_append_ints s x t ho base e i ht hi hz hsize hby v n xs hs hown a' n' cap' b' off' ys hx hy hbytes hbase h
end Gal
namespace Gal
open Go Go.RowKit
theorem cell_off {w : World} {b c o i : Nat} {u : Value} (hne : b ≠ c) (h : w.cell? ⟨b, o, none⟩ = some u) (x : Value) : (w.setCell ⟨c, i, none⟩ x).cell? ⟨b, o, none⟩ = some u :=
  (World.cell?_of_block (a := ⟨b, o, none⟩) (Below.heap_setCell w ⟨c, i, none⟩ x b hne)).trans h
end Gal
namespace Gal
open Go Go.RowKit
theorem ints_none (w : World) : IntsAt w none 0 0 0 0 [] := ⟨rfl, Nat.le_refl _, Nat.zero_le _, fun h => absurd h (Nat.lt_irrefl _), fun h => absurd h (Nat.lt_irrefl _), fun i hi => absurd hi (Nat.not_lt_zero _)⟩
end Gal
