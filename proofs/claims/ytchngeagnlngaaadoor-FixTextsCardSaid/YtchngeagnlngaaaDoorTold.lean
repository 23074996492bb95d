/- Contracts of plain.Told and galleysame.Error: of an error that is nil or an Errno, its number. errors.As is walked in Go's own text at the target *Errno. -/
import Derived.Test.YtchngeagnlngaaaDoorFix
import Derived.Test.YtchngeagnlngaaaDoorErrV
import Derived.Test.YtchngeagnlngaaaDoorBaseP
import Derived.Test.YtchngeagnlngaaaDoorBaseR
import Derived.WalkKit
import Derived.LaidEql
import Derived.Stop.Asserts
import Derived.RowKitTokens
set_option linter.unusedVariables false
set_option linter.unusedSimpArgs false
namespace Go.Proofs.YtchngeagnlngaaaDoor
open Go.RowKit Go.Extern.Stop Go.Stop Go.Extern Gal

/-- what errors.errorType holds -/
def handleV : Value := .iface 128 (.agg #[.pointer (some ⟨5, 24, none⟩)])
/-- the variable's one cell -/
def Handle (w : World) : Prop := w.cell? ⟨0, 0, none⟩ = some handleV
theorem Handle.lt {w : World} (h : Handle w) : 0 < w.heap.size := World.block_lt_of_cell? w _ h
theorem Handle.keep {w w' : World} (h : Handle w) (hb : Below w.heap.size w w') : Handle w' := (hb.cell (p := ⟨0, 0, none⟩) h.lt).trans h
theorem Handle.farS {S : Nat → Prop} {w w' : World} (h : Handle w) (hf : Far S w w') (hs : ¬ S 0) : Handle w' := (World.cell?_of_block (a := ⟨0, 0, none⟩) (hf.block _ h.lt hs)).trans h
theorem Handle.alloc {w : World} (h : Handle w) (o : Obj) : Handle (w.alloc o) := h.keep ((Below.refl w.heap.size w).alloc (Nat.le_refl _) o)
theorem Handle.drewN {w : World} (h : Handle w) (k : Nat) : Handle (w.drewN k) := h.keep ⟨rfl, rfl, rfl, Nat.le_refl _, fun _ _ => rfl⟩

theorem as_valueOfP (t : Addr) (w : World) : (ReflectliteValue.unpack (.iface 82 (.pointer (some t)))).run Tryd.prog w
    = .ok (.agg #[.pointer (some ⟨5, 82, none⟩), .pointer (some ⟨w.heap.size, 0, none⟩), .int .u64 150]) (w.alloc (.cells #[.pointer (some t)] 82)) := by kernel_rfl
theorem as_typeP (a : Addr) (w : World) : (ReflectliteValue.methodAny (ReflectliteValue.valueError "reflectlite.Value.Type" 0) (fun t _ _ _ => ReflectliteType.toType t) #[.agg #[.pointer (some ⟨5, 82, none⟩), .pointer (some a), .int .u64 150]]).run Tryd.prog w
    = .ok (.iface 128 (.agg #[.pointer (some ⟨5, 82, none⟩)])) w := by kernel_rfl
theorem as_kindP (w : World) : ((ReflectliteType.abiMethod fun t => (fun a : Nat => Value.int IntKind.u8 (a : Int)) <$> Rtype.kind t) #[.pointer (some ⟨5, 82, none⟩)]).run Tryd.prog w = .ok (.int .u8 22) w := by kernel_rfl
theorem as_kindE (w : World) : ((ReflectliteType.abiMethod fun t => (fun a : Nat => Value.int IntKind.u8 (a : Int)) <$> Rtype.kind t) #[.pointer (some ⟨5, 30, none⟩)]).run Tryd.prog w = .ok (.int .u8 2) w := by kernel_rfl
theorem as_rlm (z : Sem Value) (f : TypeId → Addr → Nat → Nat → Sem Value) (v : Value) :
    ReflectliteValue.method z f #[v] = (do match ← ReflectliteValue.parts v with | none => z | some (t, a, fl) => f t a fl (fl % 32)) := rfl
theorem as_partsP (a : Addr) (w : World) : (ReflectliteValue.parts (.agg #[.pointer (some ⟨5, 82, none⟩), .pointer (some a), .int .u64 150])).run Tryd.prog w = .ok (some (82, a, 150)) w := by kernel_rfl
theorem as_isNilP (a p : Addr) (W : World) (ha : W.cell? a = some (.pointer (some p))) :
    (ReflectliteValue.method (ReflectliteValue.valueError "reflectlite.Value.IsNil" 0) ReflectliteValue.isNil #[.agg #[.pointer (some ⟨5, 82, none⟩), .pointer (some a), .int .u64 150]]).run Tryd.prog W = .ok (.bool false) W := by
  rw [as_rlm]
  simp only [Sem.run_bind, as_partsP, Result.andThen]
  simp [ReflectliteValue.isNil, loadVar, isAgg, underlying, Tryd.underlying82, ha, Result.andThen]
theorem as_methodKind (h : Value) (w : World) : (Go.method 278 128 (.agg #[h]) "Kind").run Tryd.prog w = .ok (112, h) w := by kernel_rfl
theorem as_methodElem (h : Value) (w : World) : (Go.method 278 128 (.agg #[h]) "Elem").run Tryd.prog w = .ok (123, .agg #[h]) w := by kernel_rfl
theorem as_methodImplements (h : Value) (w : World) : (Go.method 278 128 (.agg #[h]) "Implements").run Tryd.prog w = .ok (124, .agg #[h]) w := by kernel_rfl
theorem as_methodAssignableTo (h : Value) (w : World) : (Go.method 278 128 (.agg #[h]) "AssignableTo").run Tryd.prog w = .ok (121, .agg #[h]) w := by kernel_rfl
theorem as_elemP (w : World) : (ReflectliteType.method ReflectliteType.elem #[.agg #[.pointer (some ⟨5, 82, none⟩)]]).run Tryd.prog w = .ok (.iface 128 (.agg #[.pointer (some ⟨5, 30, none⟩)])) w := by kernel_rfl
theorem as_implements (w : World) : (ReflectliteType.relation "Implements" ReflectliteType.implements_ #[.agg #[.pointer (some ⟨5, 30, none⟩)], .iface 128 (.agg #[.pointer (some ⟨5, 24, none⟩)])]).run Tryd.prog w = .ok (.bool true) w := by kernel_rfl
theorem as_typeOf (v : Value) (w : World) : (ReflectliteType.typeOf #[.iface 30 v]).run Tryd.prog w = .ok (.iface 128 (.agg #[.pointer (some ⟨5, 30, none⟩)])) w := by kernel_rfl
theorem as_assignable (w : World) : (ReflectliteType.relation "AssignableTo" ReflectliteType.assignableTo #[.agg #[.pointer (some ⟨5, 30, none⟩)], .iface 128 (.agg #[.pointer (some ⟨5, 30, none⟩)])]).run Tryd.prog w = .ok (.bool true) w := by kernel_rfl
theorem as_valueOfE (k : Int) (w : World) : (ReflectliteValue.unpack (.iface 30 (.int .i64 k))).run Tryd.prog w
    = .ok (.agg #[.pointer (some ⟨5, 30, none⟩), .pointer (some ⟨w.heap.size, 0, none⟩), .int .u64 130]) (w.alloc (.cells #[.int .i64 k] 30)) := by kernel_rfl
theorem as_elemOfP (w : World) : (Rtype.elem? 82).run Tryd.prog w = .ok (some 30) w := by kernel_rfl
theorem as_mkE (p : Addr) (w : World) : (ReflectliteValue.mk 30 p ReflectliteValue.flagAddr).run Tryd.prog w = .ok (.agg #[.pointer (some ⟨5, 30, none⟩), .pointer (some p), .int .u64 386]) w := by kernel_rfl
theorem as_elemV (a p : Addr) (W : World) (ha : W.cell? a = some (.pointer (some p))) :
    (ReflectliteValue.method (ReflectliteValue.valueError "reflectlite.Value.Elem" 0) ReflectliteValue.elem #[.agg #[.pointer (some ⟨5, 82, none⟩), .pointer (some a), .int .u64 150]]).run Tryd.prog W
      = .ok (.agg #[.pointer (some ⟨5, 30, none⟩), .pointer (some p), .int .u64 386]) W := by
  rw [as_rlm]
  simp only [Sem.run_bind, as_partsP, Result.andThen]
  simp [ReflectliteValue.elem, loadVar, isAgg, underlying, Tryd.underlying82, ha, Result.andThen, as_elemOfP, as_mkE]
theorem as_rls (v x : Value) : ReflectliteValue.set #[v, x] = (do
    let (some (dst, a, fl), some (src, b, _)) := (← ReflectliteValue.parts v, ← ReflectliteValue.parts x)
      | unsupported (.noEntry "extern/(internal/reflectlite.Value).Set.zeroValue")
    if fl / ReflectliteValue.flagAddr % 2 == 0 then unsupported (.noEntry "extern/(internal/reflectlite.Value).Set.unaddressable")
    let val ← loadVar src b
    if ← Rtype.directlyAssignable dst src then storeVar dst a val
    else if ← Rtype.implements dst src then
      if (← Rtype.kind src) == 20 then
        match val with
        | .nilIface => unsupported (.noEntry "extern/reflectlite: a nil value of one interface type handed on as a value of another")
        | _ => storeVar dst a val
      else storeVar dst a (.iface src val)
    else panicString ("reflectlite.Set: value of type " ++ (← Rtype.spelt src) ++ " is not assignable to type " ++ (← Rtype.spelt dst))
    pure (.tuple #[])) := rfl
theorem as_partsEa (a : Addr) (w : World) : (ReflectliteValue.parts (.agg #[.pointer (some ⟨5, 30, none⟩), .pointer (some a), .int .u64 386])).run Tryd.prog w = .ok (some (30, a, 386)) w := by kernel_rfl
theorem as_partsE (a : Addr) (w : World) : (ReflectliteValue.parts (.agg #[.pointer (some ⟨5, 30, none⟩), .pointer (some a), .int .u64 130])).run Tryd.prog w = .ok (some (30, a, 130)) w := by kernel_rfl
theorem as_direct (w : World) : (Rtype.directlyAssignable 30 30).run Tryd.prog w = .ok true w := by kernel_rfl
theorem as_set (ta b : Addr) (k : Int) (old : Value) (W : World) (hb : W.cell? b = some (.int .i64 k)) (ht : W.cell? ta = some old) (hf : W.frozen? ta = false) :
    (ReflectliteValue.set #[.agg #[.pointer (some ⟨5, 30, none⟩), .pointer (some ta), .int .u64 386], .agg #[.pointer (some ⟨5, 30, none⟩), .pointer (some b), .int .u64 130]]).run Tryd.prog W
      = .ok (.tuple #[]) (W.setCell ta (.int .i64 k)) := by
  rw [as_rls]
  simp only [Sem.run_bind, as_partsEa, as_partsE, Result.andThen]
  simp [ReflectliteValue.flagAddr, loadVar, isAgg, underlying, Tryd.underlying30, hb, Result.andThen, as_direct, storeVar, Value.cells, storeCells, Addr.add]
  rw [run_store Tryd.prog W ta _ _ (by rfl)]
  simp [ht, hf]

set_option maxRecDepth 100000 in
set_option maxHeartbeats 4000000 in
theorem as_hit (k : Int) (t : Addr) (old : Value) (w : World) (hg : Handle w) (ht0 : w.cell? t = some old) (hf0 : w.frozen? t = false) :
    Calls Tryd.prog 40 #[.iface 30 (.int .i64 k), .iface 82 (.pointer (some t))] w fun ev w' => ev = .returned (.bool true) ∧ w' = ((((w.alloc (.cells #[.pointer (some t)] 82)).alloc (.cells #[.pointer (some ⟨5, 82, none⟩), .pointer (some ⟨w.heap.size, 0, none⟩), .int .u64 150] 105)).alloc (.cells #[.pointer (some ⟨5, 82, none⟩), .pointer (some ⟨w.heap.size, 0, none⟩), .int .u64 150] 105)).alloc (.cells #[.int .i64 k] 30)).setCell t (.int .i64 k) := by
  have hlt := hg.lt
  unfold Handle handleV at hg
  have h6 := @run_callFunc_extern Tryd.prog 68 _ (fun args => ReflectliteValue.unpack (args.getD 0 (.tuple #[]))) Tryd.func68 (by kernel_rfl) (by kernel_rfl) (by kernel_rfl) (by kernel_rfl)
  have h7 := @run_callFunc_extern Tryd.prog 69 _ (ReflectliteValue.methodAny (ReflectliteValue.valueError "reflectlite.Value.Type" 0) (fun t _ _ _ => ReflectliteType.toType t)) Tryd.func69 (by kernel_rfl) (by kernel_rfl) (by kernel_rfl) (by kernel_rfl)
  have h8 := @run_callFunc_extern Tryd.prog 70 _ (ReflectliteValue.method (ReflectliteValue.valueError "reflectlite.Value.IsNil" 0) ReflectliteValue.isNil) Tryd.func70 (by kernel_rfl) (by kernel_rfl) (by kernel_rfl) (by kernel_rfl)
  have h27 := @run_callFunc_extern Tryd.prog 112 _ (ReflectliteType.abiMethod fun t => do pure (.int .u8 (← Rtype.kind t))) Tryd.func112 (by kernel_rfl) (by kernel_rfl) (by kernel_rfl) (by kernel_rfl)
  have h37 := @run_callFunc_extern Tryd.prog 123 _ (ReflectliteType.method ReflectliteType.elem) Tryd.func123 (by kernel_rfl) (by kernel_rfl) (by kernel_rfl) (by kernel_rfl)
  have h38 := @run_callFunc_extern Tryd.prog 124 _ (ReflectliteType.relation "Implements" ReflectliteType.implements_) Tryd.func124 (by kernel_rfl) (by kernel_rfl) (by kernel_rfl) (by kernel_rfl)
  have h10 := @run_callFunc_extern Tryd.prog 86 _ (ReflectliteType.typeOf) Tryd.func86 (by kernel_rfl) (by kernel_rfl) (by kernel_rfl) (by kernel_rfl)
  have h35 := @run_callFunc_extern Tryd.prog 121 _ (ReflectliteType.relation "AssignableTo" ReflectliteType.assignableTo) Tryd.func121 (by kernel_rfl) (by kernel_rfl) (by kernel_rfl) (by kernel_rfl)
  have h11 := @run_callFunc_extern Tryd.prog 87 _ (ReflectliteValue.method (ReflectliteValue.valueError "reflectlite.Value.Elem" 0) ReflectliteValue.elem) Tryd.func87 (by kernel_rfl) (by kernel_rfl) (by kernel_rfl) (by kernel_rfl)
  have h12 := @run_callFunc_extern Tryd.prog 88 _ ReflectliteValue.set Tryd.func88 (by kernel_rfl) (by kernel_rfl) (by kernel_rfl) (by kernel_rfl)
  have tO := as_typeOf
  have mA := as_methodAssignableTo
  have a25 := as_assignable
  have v25 := as_valueOfE
  have f6 := as_valueOfP
  have f7 := as_typeP
  have mK := as_methodKind
  have mE := as_methodElem
  have mI := as_methodImplements
  have k27 := as_kindP
  have k25 := as_kindE
  have e27 := as_elemP
  have i25 := as_implements
  have n8 := as_isNilP ⟨w.heap.size, 0, none⟩ t ((w.alloc (.cells #[.pointer (some t)] 82)).alloc (.cells #[.pointer (some ⟨5, 82, none⟩), .pointer (some ⟨w.heap.size, 0, none⟩), .int .u64 150] 105)) (by simp)
  have hg2 : ((w.alloc (.cells #[.pointer (some t)] 82)).alloc (.cells #[.pointer (some ⟨5, 82, none⟩), .pointer (some ⟨w.heap.size, 0, none⟩), .int .u64 150] 105)).cell? ⟨0, 0, none⟩ = some (.iface 128 (.agg #[.pointer (some ⟨5, 24, none⟩)])) := by
    rw [World.cell?_alloc_lt _ _ ⟨0, 0, none⟩ (by first | (simp; done) | (simp; omega)), World.cell?_alloc_lt _ _ ⟨0, 0, none⟩ hlt]; exact hg
  have htl : t.block < w.heap.size := by
    rcases Nat.lt_or_ge t.block w.heap.size with h | h
    · exact h
    · simp [World.cell?, Array.getElem?_eq_none h] at ht0
  have el := as_elemV ⟨w.heap.size, 0, none⟩ t (((w.alloc (.cells #[.pointer (some t)] 82)).alloc (.cells #[.pointer (some ⟨5, 82, none⟩), .pointer (some ⟨w.heap.size, 0, none⟩), .int .u64 150] 105)).alloc (.cells #[.pointer (some ⟨5, 82, none⟩), .pointer (some ⟨w.heap.size, 0, none⟩), .int .u64 150] 105)) (by rw [World.cell?_alloc_lt _ _ ⟨w.heap.size, 0, none⟩ (by first | (simp; done) | (simp; omega))]; simp)
  have st := as_set t ⟨w.heap.size + 1 + 1 + 1, 0, none⟩ k old ((((w.alloc (.cells #[.pointer (some t)] 82)).alloc (.cells #[.pointer (some ⟨5, 82, none⟩), .pointer (some ⟨w.heap.size, 0, none⟩), .int .u64 150] 105)).alloc (.cells #[.pointer (some ⟨5, 82, none⟩), .pointer (some ⟨w.heap.size, 0, none⟩), .int .u64 150] 105)).alloc (.cells #[.int .i64 k] 30))
    (by rw [World.cell?_alloc_at _ _ _ _ (by simp)]; rfl)
    (by rw [World.cell?_alloc_lt _ _ t (by first | (simp; done) | (simp; omega)), World.cell?_alloc_lt _ _ t (by first | (simp; done) | (simp; omega)), World.cell?_alloc_lt _ _ t (by first | (simp; done) | (simp; omega)), World.cell?_alloc_lt _ _ t htl]; exact ht0)
    (by rw [World.frozen?_alloc_old _ _ t (by first | (simp; done) | (simp; omega)), World.frozen?_alloc_old _ _ t (by first | (simp; done) | (simp; omega)), World.frozen?_alloc_old _ _ t (by first | (simp; done) | (simp; omega)), World.frozen?_alloc_old _ _ t (Nat.ne_of_lt htl)]; exact hf0)
  go_enter Tryd.func40, Tryd.ntmps40
  go_wp2
  refine wp_loop_rounds 1 ?_
  rw [rounds_succ]
  go_wp2
  go_ret
  exact ⟨rfl, rfl⟩

/-- plain.Told -/
theorem told_any (k : Int) (w : World) (hg : Handle w) : Calls Tryd.prog 26 #[errV k] w fun e w' => e = .returned (.int .i64 k) ∧ Below w.heap.size w w' := by
  by_cases hk : k = 0
  · subst hk
    rw [errV_nil rfl]
    go_enter Tryd.func26, Tryd.ntmps26
    go_wp2
    go_ret
    exact ⟨rfl, Below.refl _ _⟩
  · rw [errV_err hk]
    clear hk
    have hg1 : Handle (w.alloc (.cells #[.int .i64 0] 30)) := hg.alloc _
    go_enter Tryd.func26, Tryd.ntmps26
    go_wp2_with fail
    refine (as_hit k ⟨w.heap.size, 0, none⟩ (.int .i64 0) _ hg1 (by simp) (by simp)).mono ?_
    rintro e w' ⟨rfl, rfl⟩
    go_wp2
    go_ret
    exact ⟨rfl, (by repeat (first | fail | (with_reducible exact Below.refl _ _) | (with_reducible refine Below.al ?_ _) | (with_reducible refine Below.drN ?_ _) | (with_reducible refine Below.drew ?_) | (with_reducible refine Below.st ?_ ?_ _; rotate_left 1; (first | (dsimp only; omega) | omega | (simp; omega) | simp)) | exact Below.refl _ _))⟩

/-- galleysame.Error -/
theorem error_any (k e : Int) (w : World) (hg : Handle w) : Calls Tryd.prog 10 #[errV k, .int .i64 e] w fun r w' => r = .returned (.bool (decide (k = e))) ∧ Below w.heap.size w w' := by
  by_cases hke : k = e
  · subst hke
    have h1 : (k == k) = true := by simp
    rw [decide_eq_true rfl]
    go_enter Tryd.func10, Tryd.ntmps10
    go_wp2_with fail
    refine (told_any k _ hg).mono ?_
    rintro e w' ⟨rfl, hb1⟩
    go_wp2
    go_ret
    exact ⟨rfl, (by repeat (first | fail | (with_reducible exact Below.refl _ _) | (with_reducible refine Below.al ?_ _) | (with_reducible refine Below.drN ?_ _) | (with_reducible refine Below.drew ?_) | (with_reducible refine Below.st ?_ ?_ _; rotate_left 1; (first | (dsimp only; omega) | omega | (simp; omega) | simp)) | (with_reducible refine Below.go ?_ hb1) | exact Below.refl _ _))⟩
  · have h1 : (k == e) = false := by simp [hke]
    rw [decide_eq_false hke]
    clear hke
    go_enter Tryd.func10, Tryd.ntmps10
    go_wp2_with fail
    refine (told_any k _ hg).mono ?_
    rintro e w' ⟨rfl, hb1⟩
    go_wp2
    go_ret
    exact ⟨rfl, (by repeat (first | fail | (with_reducible exact Below.refl _ _) | (with_reducible refine Below.al ?_ _) | (with_reducible refine Below.drN ?_ _) | (with_reducible refine Below.drew ?_) | (with_reducible refine Below.st ?_ ?_ _; rotate_left 1; (first | (dsimp only; omega) | omega | (simp; omega) | simp)) | (with_reducible refine Below.go ?_ hb1) | exact Below.refl _ _))⟩
end Go.Proofs.YtchngeagnlngaaaDoor
