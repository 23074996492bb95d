/- Texts joined: Told. -/
import Derived.Test.YtgknjikjjklaiaaGreatDoorJ05
import Derived.Test.YtgknjikjjklaiaaGreatDoorJ03
import Derived.WalkKit
import Derived.LaidEql
import Derived.Stop.Asserts
import Derived.RowKitTokens
section
set_option linter.unusedVariables false
set_option linter.unusedSimpArgs false
namespace Go.Proofs.YtgknjikjjklaiaaGreatDoor
open Go.RowKit Go.Extern.Stop Go.Stop Go.Extern Gal
def handleV : Value := .iface 182 (.agg #[.pointer (some ⟨1, 28, none⟩)])
def Handle (w : World) : Prop := w.cell? ⟨0, 0, none⟩ = some handleV
theorem Handle.lt {w : World} (h : Handle w) : 0 < w.heap.size := World.block_lt_of_cell? w _ h
theorem Handle.keep {w w' : World} (h : Handle w) (hb : Below w.heap.size w w') : Handle w' := (hb.cell (p := ⟨0, 0, none⟩) h.lt).trans h
theorem Handle.farS {S : Nat → Prop} {w w' : World} (h : Handle w) (hf : Far S w w') (hs : ¬ S 0) : Handle w' := (World.cell?_of_block (a := ⟨0, 0, none⟩) (hf.block _ h.lt hs)).trans h
theorem Handle.alloc {w : World} (h : Handle w) (o : Obj) : Handle (w.alloc o) := h.keep ((Below.refl w.heap.size w).alloc (Nat.le_refl _) o)
theorem Handle.drewN {w : World} (h : Handle w) (k : Nat) : Handle (w.drewN k) := h.keep ⟨rfl, rfl, rfl, Nat.le_refl _, fun _ _ => rfl⟩
theorem as_valueOfP (t : Addr) (w : World) : (ReflectliteValue.unpack (.iface 128 (.pointer (some t)))).run Tryz.prog w
  = .ok (.agg #[.pointer (some ⟨1, 128, none⟩), .pointer (some ⟨w.heap.size, 0, none⟩), .int .u64 150]) (w.alloc (.cells #[.pointer (some t)] 128)) := by kernel_rfl
theorem as_typeP (a : Addr) (w : World) : (ReflectliteValue.methodAny (ReflectliteValue.valueError "reflectlite.Value.Type" 0) (fun t _ _ _ => ReflectliteType.toType t) #[.agg #[.pointer (some ⟨1, 128, none⟩), .pointer (some a), .int .u64 150]]).run Tryz.prog w
  = .ok (.iface 182 (.agg #[.pointer (some ⟨1, 128, none⟩)])) w := by kernel_rfl
theorem as_kindP (w : World) : ((ReflectliteType.abiMethod fun t => (fun a : Nat => Value.int IntKind.u8 (a : Int)) <$> Rtype.kind t) #[.pointer (some ⟨1, 128, none⟩)]).run Tryz.prog w = .ok (.int .u8 22) w := by kernel_rfl
theorem as_kindE (w : World) : ((ReflectliteType.abiMethod fun t => (fun a : Nat => Value.int IntKind.u8 (a : Int)) <$> Rtype.kind t) #[.pointer (some ⟨1, 31, none⟩)]).run Tryz.prog w = .ok (.int .u8 2) w := by kernel_rfl
theorem as_rlm (z : Sem Value) (f : TypeId → Addr → Nat → Nat → Sem Value) (v : Value) :
  ReflectliteValue.method z f #[v] = (do match ← ReflectliteValue.parts v with | none => z | some (t, a, fl) => f t a fl (fl % 32)) := rfl
theorem as_partsP (a : Addr) (w : World) : (ReflectliteValue.parts (.agg #[.pointer (some ⟨1, 128, none⟩), .pointer (some a), .int .u64 150])).run Tryz.prog w = .ok (some (128, a, 150)) w := by kernel_rfl
theorem as_isNilP (a p : Addr) (W : World) (ha : W.cell? a = some (.pointer (some p))) :
  (ReflectliteValue.method (ReflectliteValue.valueError "reflectlite.Value.IsNil" 0) ReflectliteValue.isNil #[.agg #[.pointer (some ⟨1, 128, none⟩), .pointer (some a), .int .u64 150]]).run Tryz.prog W = .ok (.bool false) W := by
 rw [as_rlm]
 simp only [Sem.run_bind, as_partsP, Result.andThen]
 simp [ReflectliteValue.isNil, loadVar, isAgg, underlying, Tryz.underlying128, ha, Result.andThen]
theorem as_methodKind (h : Value) (w : World) : (Go.method 329 182 (.agg #[h]) "Kind").run Tryz.prog w = .ok (120, h) w := by kernel_rfl
theorem as_methodElem (h : Value) (w : World) : (Go.method 329 182 (.agg #[h]) "Elem").run Tryz.prog w = .ok (159, .agg #[h]) w := by kernel_rfl
theorem as_methodImplements (h : Value) (w : World) : (Go.method 329 182 (.agg #[h]) "Implements").run Tryz.prog w = .ok (160, .agg #[h]) w := by kernel_rfl
theorem as_methodAssignableTo (h : Value) (w : World) : (Go.method 329 182 (.agg #[h]) "AssignableTo").run Tryz.prog w = .ok (157, .agg #[h]) w := by kernel_rfl
theorem as_elemP (w : World) : (ReflectliteType.method ReflectliteType.elem #[.agg #[.pointer (some ⟨1, 128, none⟩)]]).run Tryz.prog w = .ok (.iface 182 (.agg #[.pointer (some ⟨1, 31, none⟩)])) w := by kernel_rfl
theorem as_implements (w : World) : (ReflectliteType.relation "Implements" ReflectliteType.implements_ #[.agg #[.pointer (some ⟨1, 31, none⟩)], .iface 182 (.agg #[.pointer (some ⟨1, 28, none⟩)])]).run Tryz.prog w = .ok (.bool true) w := by kernel_rfl
theorem as_typeOf (v : Value) (w : World) : (ReflectliteType.typeOf #[.iface 31 v]).run Tryz.prog w = .ok (.iface 182 (.agg #[.pointer (some ⟨1, 31, none⟩)])) w := by kernel_rfl
theorem as_assignable (w : World) : (ReflectliteType.relation "AssignableTo" ReflectliteType.assignableTo #[.agg #[.pointer (some ⟨1, 31, none⟩)], .iface 182 (.agg #[.pointer (some ⟨1, 31, none⟩)])]).run Tryz.prog w = .ok (.bool true) w := by kernel_rfl
theorem as_valueOfE (k : Int) (w : World) : (ReflectliteValue.unpack (.iface 31 (.int .i64 k))).run Tryz.prog w
  = .ok (.agg #[.pointer (some ⟨1, 31, none⟩), .pointer (some ⟨w.heap.size, 0, none⟩), .int .u64 130]) (w.alloc (.cells #[.int .i64 k] 31)) := by kernel_rfl
theorem as_elemOfP (w : World) : (Rtype.elem? 128).run Tryz.prog w = .ok (some 31) w := by kernel_rfl
theorem as_mkE (p : Addr) (w : World) : (ReflectliteValue.mk 31 p ReflectliteValue.flagAddr).run Tryz.prog w = .ok (.agg #[.pointer (some ⟨1, 31, none⟩), .pointer (some p), .int .u64 386]) w := by kernel_rfl
theorem as_elemV (a p : Addr) (W : World) (ha : W.cell? a = some (.pointer (some p))) :
  (ReflectliteValue.method (ReflectliteValue.valueError "reflectlite.Value.Elem" 0) ReflectliteValue.elem #[.agg #[.pointer (some ⟨1, 128, none⟩), .pointer (some a), .int .u64 150]]).run Tryz.prog W
   = .ok (.agg #[.pointer (some ⟨1, 31, none⟩), .pointer (some p), .int .u64 386]) W := by
 rw [as_rlm]
 simp only [Sem.run_bind, as_partsP, Result.andThen]
 simp [ReflectliteValue.elem, loadVar, isAgg, underlying, Tryz.underlying128, ha, Result.andThen, as_elemOfP, as_mkE]
theorem as_rls (v x : Value) : ReflectliteValue.set #[v, x] = (do
  let (some (dst, a, fl), some (src, b, _)) := (← ReflectliteValue.parts v, ← ReflectliteValue.parts x)
   | unsupported (.noEntry "extern/(internal/reflectlite.Value).Set.zeroValue")
  if fl / ReflectliteValue.flagAddr % 2 == 0 then unsupported (.noEntry "extern/(internal/reflectlite.Value).Set.unaddressable")
  let val ← loadVar src b
  if ← Rtype.directlyAssignable dst src then storeVar dst a val
  else if ← Rtype.implements dst src then
   if (← Rtype.kind src) == 20 then
    match val with
    | .nilIface => unsupported (.noEntry "extern/reflectlite: a nil value of one interface type handed on as a value of another")
    | _ => storeVar dst a val
   else storeVar dst a (.iface src val)
  else panicString ("reflectlite.Set: value of type " ++ (← Rtype.spelt src) ++ " is not assignable to type " ++ (← Rtype.spelt dst))
  pure (.tuple #[])) := rfl
theorem as_partsEa (a : Addr) (w : World) : (ReflectliteValue.parts (.agg #[.pointer (some ⟨1, 31, none⟩), .pointer (some a), .int .u64 386])).run Tryz.prog w = .ok (some (31, a, 386)) w := by kernel_rfl
theorem as_partsE (a : Addr) (w : World) : (ReflectliteValue.parts (.agg #[.pointer (some ⟨1, 31, none⟩), .pointer (some a), .int .u64 130])).run Tryz.prog w = .ok (some (31, a, 130)) w := by kernel_rfl
theorem as_direct (w : World) : (Rtype.directlyAssignable 31 31).run Tryz.prog w = .ok true w := by kernel_rfl
theorem as_set (ta b : Addr) (k : Int) (old : Value) (W : World) (hb : W.cell? b = some (.int .i64 k)) (ht : W.cell? ta = some old) (hf : W.frozen? ta = false) :
  (ReflectliteValue.set #[.agg #[.pointer (some ⟨1, 31, none⟩), .pointer (some ta), .int .u64 386], .agg #[.pointer (some ⟨1, 31, none⟩), .pointer (some b), .int .u64 130]]).run Tryz.prog W
   = .ok (.tuple #[]) (W.setCell ta (.int .i64 k)) := by
 rw [as_rls]
 simp only [Sem.run_bind, as_partsEa, as_partsE, Result.andThen]
 simp [ReflectliteValue.flagAddr, loadVar, isAgg, underlying, Tryz.underlying31, hb, Result.andThen, as_direct, storeVar, Value.cells, storeCells, Addr.add]
 rw [run_store Tryz.prog W ta _ _ (by rfl)]
 simp [ht, hf]
set_option maxRecDepth 100000 in
set_option maxHeartbeats 4000000 in
theorem as_hit (k : Int) (t : Addr) (old : Value) (w : World) (hg : Handle w) (ht0 : w.cell? t = some old) (hf0 : w.frozen? t = false) :
  Calls Tryz.prog 71 #[.iface 31 (.int .i64 k), .iface 128 (.pointer (some t))] w fun ev w' => ev = .returned (.bool true) ∧ w' = ((((w.alloc (.cells #[.pointer (some t)] 128)).alloc (.cells #[.pointer (some ⟨1, 128, none⟩), .pointer (some ⟨w.heap.size, 0, none⟩), .int .u64 150] 157)).alloc (.cells #[.pointer (some ⟨1, 128, none⟩), .pointer (some ⟨w.heap.size, 0, none⟩), .int .u64 150] 157)).alloc (.cells #[.int .i64 k] 31)).setCell t (.int .i64 k) := by
 have hlt := hg.lt
 unfold Handle handleV at hg
 have h6 := @run_callFunc_extern Tryz.prog 87 _ (fun args => ReflectliteValue.unpack (args.getD 0 (.tuple #[]))) Tryz.func87 (by kernel_rfl) (by kernel_rfl) (by kernel_rfl) (by kernel_rfl)
 have h7 := @run_callFunc_extern Tryz.prog 88 _ (ReflectliteValue.methodAny (ReflectliteValue.valueError "reflectlite.Value.Type" 0) (fun t _ _ _ => ReflectliteType.toType t)) Tryz.func88 (by kernel_rfl) (by kernel_rfl) (by kernel_rfl) (by kernel_rfl)
 have h8 := @run_callFunc_extern Tryz.prog 89 _ (ReflectliteValue.method (ReflectliteValue.valueError "reflectlite.Value.IsNil" 0) ReflectliteValue.isNil) Tryz.func89 (by kernel_rfl) (by kernel_rfl) (by kernel_rfl) (by kernel_rfl)
 have h27 := @run_callFunc_extern Tryz.prog 120 _ (ReflectliteType.abiMethod fun t => do pure (.int .u8 (← Rtype.kind t))) Tryz.func120 (by kernel_rfl) (by kernel_rfl) (by kernel_rfl) (by kernel_rfl)
 have h37 := @run_callFunc_extern Tryz.prog 159 _ (ReflectliteType.method ReflectliteType.elem) Tryz.func159 (by kernel_rfl) (by kernel_rfl) (by kernel_rfl) (by kernel_rfl)
 have h38 := @run_callFunc_extern Tryz.prog 160 _ (ReflectliteType.relation "Implements" ReflectliteType.implements_) Tryz.func160 (by kernel_rfl) (by kernel_rfl) (by kernel_rfl) (by kernel_rfl)
 have h10 := @run_callFunc_extern Tryz.prog 103 _ (ReflectliteType.typeOf) Tryz.func103 (by kernel_rfl) (by kernel_rfl) (by kernel_rfl) (by kernel_rfl)
 have h35 := @run_callFunc_extern Tryz.prog 157 _ (ReflectliteType.relation "AssignableTo" ReflectliteType.assignableTo) Tryz.func157 (by kernel_rfl) (by kernel_rfl) (by kernel_rfl) (by kernel_rfl)
 have h11 := @run_callFunc_extern Tryz.prog 104 _ (ReflectliteValue.method (ReflectliteValue.valueError "reflectlite.Value.Elem" 0) ReflectliteValue.elem) Tryz.func104 (by kernel_rfl) (by kernel_rfl) (by kernel_rfl) (by kernel_rfl)
 have h12 := @run_callFunc_extern Tryz.prog 105 _ ReflectliteValue.set Tryz.func105 (by kernel_rfl) (by kernel_rfl) (by kernel_rfl) (by kernel_rfl)
 have tO := as_typeOf
 have mA := as_methodAssignableTo
 have a25 := as_assignable
 have v25 := as_valueOfE
 have f6 := as_valueOfP
 have f7 := as_typeP
 have mK := as_methodKind
 have mE := as_methodElem
 have mI := as_methodImplements
 have k27 := as_kindP
 have k25 := as_kindE
 have e27 := as_elemP
 have i25 := as_implements
 have n8 := as_isNilP ⟨w.heap.size, 0, none⟩ t ((w.alloc (.cells #[.pointer (some t)] 128)).alloc (.cells #[.pointer (some ⟨1, 128, none⟩), .pointer (some ⟨w.heap.size, 0, none⟩), .int .u64 150] 157)) (by simp)
 have hg2 : ((w.alloc (.cells #[.pointer (some t)] 128)).alloc (.cells #[.pointer (some ⟨1, 128, none⟩), .pointer (some ⟨w.heap.size, 0, none⟩), .int .u64 150] 157)).cell? ⟨0, 0, none⟩ = some (.iface 182 (.agg #[.pointer (some ⟨1, 28, none⟩)])) := by
  rw [World.cell?_alloc_lt _ _ ⟨0, 0, none⟩ (by first | (simp; done) | (simp; omega)), World.cell?_alloc_lt _ _ ⟨0, 0, none⟩ hlt]; exact hg
 have htl : t.block < w.heap.size := by
  rcases Nat.lt_or_ge t.block w.heap.size with h | h
  ·exact h
  ·simp [World.cell?, Array.getElem?_eq_none h] at ht0
 have el := as_elemV ⟨w.heap.size, 0, none⟩ t (((w.alloc (.cells #[.pointer (some t)] 128)).alloc (.cells #[.pointer (some ⟨1, 128, none⟩), .pointer (some ⟨w.heap.size, 0, none⟩), .int .u64 150] 157)).alloc (.cells #[.pointer (some ⟨1, 128, none⟩), .pointer (some ⟨w.heap.size, 0, none⟩), .int .u64 150] 157)) (by rw [World.cell?_alloc_lt _ _ ⟨w.heap.size, 0, none⟩ (by first | (simp; done) | (simp; omega))]; simp)
 have st := as_set t ⟨w.heap.size + 1 + 1 + 1, 0, none⟩ k old ((((w.alloc (.cells #[.pointer (some t)] 128)).alloc (.cells #[.pointer (some ⟨1, 128, none⟩), .pointer (some ⟨w.heap.size, 0, none⟩), .int .u64 150] 157)).alloc (.cells #[.pointer (some ⟨1, 128, none⟩), .pointer (some ⟨w.heap.size, 0, none⟩), .int .u64 150] 157)).alloc (.cells #[.int .i64 k] 31))
  (by rw [World.cell?_alloc_at _ _ _ _ (by simp)]; rfl)
  (by rw [World.cell?_alloc_lt _ _ t (by first | (simp; done) | (simp; omega)), World.cell?_alloc_lt _ _ t (by first | (simp; done) | (simp; omega)), World.cell?_alloc_lt _ _ t (by first | (simp; done) | (simp; omega)), World.cell?_alloc_lt _ _ t htl]; exact ht0)
  (by rw [World.frozen?_alloc_old _ _ t (by first | (simp; done) | (simp; omega)), World.frozen?_alloc_old _ _ t (by first | (simp; done) | (simp; omega)), World.frozen?_alloc_old _ _ t (by first | (simp; done) | (simp; omega)), World.frozen?_alloc_old _ _ t (Nat.ne_of_lt htl)]; exact hf0)
 go_enter Tryz.func71, Tryz.ntmps71
 go_wp2
 refine wp_loop_rounds 1 ?_
 rw [rounds_succ]
 go_wp2
 go_ret
 exact ⟨rfl, rfl⟩
theorem told_any (k : Int) (w : World) (hg : Handle w) : Calls Tryz.prog 42 #[errV k] w fun e w' => e = .returned (.int .i64 k) ∧ Below w.heap.size w w' := by
 by_cases hk : k = 0
 ·subst hk
  rw [errV_nil rfl]
  go_enter Tryz.func42, Tryz.ntmps42
  go_wp2
  go_ret
  exact ⟨rfl, Below.refl _ _⟩
 ·rw [errV_err hk]
  clear hk
  have hg1 : Handle (w.alloc (.cells #[.int .i64 0] 31)) := hg.alloc _
  go_enter Tryz.func42, Tryz.ntmps42
  go_wp2_with fail
  refine (as_hit k ⟨w.heap.size, 0, none⟩ (.int .i64 0) _ hg1 (by simp) (by simp)).mono ?_
  rintro e w' ⟨rfl, rfl⟩
  go_wp2
  go_ret
  exact ⟨rfl, Below.x0⟩
theorem error_any (k e : Int) (w : World) (hg : Handle w) : Calls Tryz.prog 12 #[errV k, .int .i64 e] w fun r w' => r = .returned (.bool (decide (k = e))) ∧ Below w.heap.size w w' := by
 by_cases hke : k = e
 ·subst hke
  have h1 : (k == k) = true := by simp
  rw [decide_eq_true rfl]
  go_enter Tryz.func12, Tryz.ntmps12
  go_wp2_with fail
  refine (told_any k _ hg).mono ?_
  rintro e w' ⟨rfl, hb1⟩
  go_wp2
  go_ret
  exact ⟨rfl, (Below.x1 hb1)⟩
 ·have h1 : (k == e) = false := by simp [hke]
  rw [decide_eq_false hke]
  clear hke
  go_enter Tryz.func12, Tryz.ntmps12
  go_wp2_with fail
  refine (told_any k _ hg).mono ?_
  rintro e w' ⟨rfl, hb1⟩
  go_wp2
  go_ret
  exact ⟨rfl, (Below.x1 hb1)⟩
end Go.Proofs.YtgknjikjjklaiaaGreatDoor
end
