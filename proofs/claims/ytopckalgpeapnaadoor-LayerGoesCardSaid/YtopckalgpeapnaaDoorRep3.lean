/- append onto a slice of the call's own, from any slice of integers. Over any program. -/
import Derived.Test.YtopckalgpeapnaaDoorRep2
import Derived.Deep.AppendSrc
import Derived.Deep.AppendLies
set_option linter.unusedVariables false
set_option linter.unusedSimpArgs false
namespace Gal
open Go Go.RowKit

section
variable {P : Program} {w : World}
theorem run_append_nil_src (base : Nat) (t ty e : TypeId) (i : TypeInfo) (size : Nat) (ht : P.underlying t = some (.slice e)) (hi : P.info? e = some i) (hsize : i.size = size)
    (v : Value) (n : Nat) (xs : List Value) (hown : w.ownsRow base e size v n xs) (c : Nat) :
    (Builtin.append_ #[t, t] ty #[v, .slice none 0 c]).run P w = .ok v w := by
  rcases hown.2 with ⟨rfl, rfl⟩ | ⟨g, cap, cur, rfl, _, hg, hn, _, _, _⟩
  · simp [Builtin.append_, run_underlying ht, Go.sizeOf, typeInfo, hi, Builtin.lenOf, Builtin.firstCells, loadCells, loadCellsFrom]
  · have hr := run_append_room_src (P := P) w t t ty e i ht hi g 0 n cap (.slice none 0 c) 0 [] (Src.ofNil w ht c) (by omega) (fun j hj => absurd hj (Nat.not_lt_zero _)) (fun j hj => absurd hj (Nat.not_lt_zero _))
    simpa [World.setCells] using hr

theorem wp_append_ints {o : Oper} {a : Act} {K : Act → World → Prop} {Q : Exit → Act → World → Prop} (s x : Operand) (t : TypeId)
    (ho : o.op = .call { callee := .builtin .append, args := #[s, x], argTypes := #[t, t] })
    (base : Nat) (e : TypeId) (i : TypeInfo) (ht : P.underlying t = some (.slice e)) (hi : P.info? e = some i) (hz : i.zero = some (.int .i64 0))
    (hsize : i.size = 1) (hby : i.bytes = 8)
    (v : Value) (n : Nat) (xs : List Int) (hs : a.eval s = v) (hown : w.ownsRow base e 1 v n (xs.map (Value.int .i64)))
    (a' : Option Addr) (n' cap' b' off' : Nat) (ys : List Int) (hx : a.eval x = .slice a' n' cap') (hy : IntsAt w a' n' cap' b' off' ys)
    (hbytes : (n + n') * 8 ≤ 140737488355328) (hbase : base ≤ w.heap.size)
    (h : ∀ v' w', w'.ownsRow base e 1 v' (n + n') ((xs ++ ys).map (Value.int .i64)) → w.grownBy w' v.ownBlock → K (a.put o.dst v') w') : o.wp P a w K Q := by
  cases a' with
  | some A =>
    refine wp_append_own w s x t ho base e i (.int .i64 0) 1 8 ht hi hz hsize hby rfl (by decide) v n _ hs hown A n' cap' (ys.map (Value.int .i64)) hx (by rw [List.length_map, hy.len, Nat.mul_one]) hy.news (ints_one ys)
      (by unfold maxLen; omega) hbytes hbase fun v' w' h2 h3 _ => h v' w' (by rw [List.map_append]; exact h2) h3
  | none =>
    have h0 : n' = 0 := by
      rcases Nat.eq_zero_or_pos n' with h0 | h0
      · exact h0
      · have := hy.ptr h0; cases this
    subst h0
    have hr := run_append_nil_src (P := P) base t o.type e i 1 ht hi hsize v n _ hown cap'
    have hl := hy.len
    obtain rfl : ys = [] := List.eq_nil_of_length_eq_zero hl
    unfold Oper.wp execOp
    simp only [ho, resolve, invoke, builtin, Sem.run_bind, Sem.run_pure, Result.andThen_ok, List.map_toArray, List.map_cons, List.map_nil, hs, hx, hr]
    exact h v w (by rw [List.append_nil]; exact hown) ⟨rfl, rfl, rfl, Nat.le_refl _, fun _ _ _ => rfl⟩

theorem wpList_append_ints {ops : Array Oper} {rest : List Oper} {o : Oper} {a : Act} {Q : Exit → Act → World → Prop} (hgd : o.guard = none) (s x : Operand) (t : TypeId)
    (ho : o.op = .call { callee := .builtin .append, args := #[s, x], argTypes := #[t, t] })
    (base : Nat) (e : TypeId) (i : TypeInfo) (ht : P.underlying t = some (.slice e)) (hi : P.info? e = some i) (hz : i.zero = some (.int .i64 0))
    (hsize : i.size = 1) (hby : i.bytes = 8)
    (v : Value) (n : Nat) (xs : List Int) (hs : a.eval s = v) (hown : w.ownsRow base e 1 v n (xs.map (Value.int .i64)))
    (a' : Option Addr) (n' cap' b' off' : Nat) (ys : List Int) (hx : a.eval x = .slice a' n' cap') (hy : IntsAt w a' n' cap' b' off' ys)
    (hbytes : (n + n') * 8 ≤ 140737488355328) (hbase : base ≤ w.heap.size)
    (h : ∀ v' w', w'.ownsRow base e 1 v' (n + n') ((xs ++ ys).map (Value.int .i64)) → w.grownBy w' v.ownBlock → wpList P ops Q rest (a.put o.dst v') w') : wpList P ops Q (o :: rest) a w :=
  wpList_plain hgd fun _ hK => wp_append_ints s x t ho base e i ht hi hz hsize hby v n xs hs hown a' n' cap' b' off' ys hx hy hbytes hbase fun v' w' h2 h3 => hK _ _ (h v' w' h2 h3)
end
theorem MatsAt.keep {w w' : World} {a : Option Addr} {n cap b off : Nat} {ms : List Mat} (h : MatsAt w a n cap b off ms) (hb : Below w.heap.size w w') : MatsAt w' a n cap b off ms := by
  refine ⟨h.len, h.le, h.maxc, h.ptr, fun hn => Nat.lt_of_lt_of_le (h.lt hn) hb.size, fun i hi => ?_⟩
  have hlt := h.lt (by omega)
  obtain ⟨a', n', cap', b', off', m0, m1, m2, hb', hi'⟩ := h.cell i hi
  exact ⟨a', n', cap', b', off', (hb.cell (p := ⟨b, _, none⟩) hlt).trans m0, (hb.cell (p := ⟨b, _, none⟩) hlt).trans m1, (hb.cell (p := ⟨b, _, none⟩) hlt).trans m2, fun h0 => Nat.lt_of_lt_of_le (hb' h0) hb.size, hi'.keep hb⟩
/-- a value reads as a matrix, and lies in blocks from base on -/
def MatNew (base : Nat) (w : World) (v : Value) (m : Mat) : Prop := ∃ a n cap b off, v = .agg #[.int .i64 m.rows, .int .i64 m.cols, .slice a n cap] ∧ (0 < n → base ≤ b) ∧ IntsAt w a n cap b off m.cells
theorem MatNew.at {base : Nat} {w : World} {v : Value} {m : Mat} (h : MatNew base w v m) : MatAt w v m := by
  obtain ⟨a, n, cap, b, off, h1, _, h2⟩ := h
  exact ⟨a, n, cap, b, off, h1, h2⟩
theorem MatNew.mk {base : Nat} {w : World} {a : Option Addr} {n cap b off : Nat} {xs : List Int} {r c : Int} (hb : 0 < n → base ≤ b) (h : IntsAt w a n cap b off xs) : MatNew base w (.agg #[.int .i64 r, .int .i64 c, .slice a n cap]) ⟨r, c, xs⟩ := ⟨a, n, cap, b, off, rfl, hb, h⟩
end Gal
