/- Texts joined: AsFall. -/
import Derived.Test.YtchngeagnlngaaaGreatDoorJ13
set_option linter.unusedVariables false
set_option linter.unusedSimpArgs false
section
namespace Go.Proofs.YtchngeagnlngaaaGreatDoor
open Go.RowKit Go.Extern.Stop Go.Stop Go.Extern Gal
theorem fa_valueOfP (t:Addr) (w:World):(ReflectliteValue.unpack (.iface 63 (.pointer (some t)))).run Tryz.prog w
  = .ok (.agg #[.pointer (some ⟨2,63,none⟩),.pointer (some ⟨w.heap.size,0,none⟩),.int .u64 150]) (w.alloc (.cells #[.pointer (some t)] 63)):=by kernel_rfl
theorem fa_typeP (a:Addr) (w:World):(ReflectliteValue.methodAny (ReflectliteValue.valueError "reflectlite.Value.Type" 0) (fun t _ _ _=>ReflectliteType.toType t) #[.agg #[.pointer (some ⟨2,63,none⟩),.pointer (some a),.int .u64 150]]).run Tryz.prog w
  = .ok (.iface 150 (.agg #[.pointer (some ⟨2,63,none⟩)])) w:=by kernel_rfl
theorem fa_kindP (w:World):((ReflectliteType.abiMethod fun t=>(fun a:Nat=>Value.int IntKind.u8 (a:Int)) <$> Rtype.kind t) #[.pointer (some ⟨2,63,none⟩)]).run Tryz.prog w=.ok (.int .u8 22) w:=by kernel_rfl
theorem fa_kindE (w:World):((ReflectliteType.abiMethod fun t=>(fun a:Nat=>Value.int IntKind.u8 (a:Int)) <$> Rtype.kind t) #[.pointer (some ⟨2,61,none⟩)]).run Tryz.prog w=.ok (.int .u8 25) w:=by kernel_rfl
theorem fa_partsP (a:Addr) (w:World):(ReflectliteValue.parts (.agg #[.pointer (some ⟨2,63,none⟩),.pointer (some a),.int .u64 150])).run Tryz.prog w=.ok (some (63,a,150)) w:=by kernel_rfl
theorem fa_isNilP (a p:Addr) (W:World) (ha:W.cell? a=some (.pointer (some p))) :
  (ReflectliteValue.method (ReflectliteValue.valueError "reflectlite.Value.IsNil" 0) ReflectliteValue.isNil #[.agg #[.pointer (some ⟨2,63,none⟩),.pointer (some a),.int .u64 150]]).run Tryz.prog W=.ok (.bool false) W:=by
 rw [as_rlm]
 simp only [Sem.run_bind,fa_partsP,Result.andThen]
 simp [ReflectliteValue.isNil,loadVar,isAgg,underlying,Tryz.underlying63,ha,Result.andThen]
theorem fa_elemP (w:World):(ReflectliteType.method ReflectliteType.elem #[.agg #[.pointer (some ⟨2,63,none⟩)]]).run Tryz.prog w=.ok (.iface 150 (.agg #[.pointer (some ⟨2,61,none⟩)])) w:=by kernel_rfl
theorem fa_implements (w:World):(ReflectliteType.relation "Implements" ReflectliteType.implements_ #[.agg #[.pointer (some ⟨2,61,none⟩)],.iface 150 (.agg #[.pointer (some ⟨2,33,none⟩)])]).run Tryz.prog w=.ok (.bool true) w:=by kernel_rfl
theorem fa_typeOf (v:Value) (w:World):(ReflectliteType.typeOf #[.iface 61 v]).run Tryz.prog w=.ok (.iface 150 (.agg #[.pointer (some ⟨2,61,none⟩)])) w:=by kernel_rfl
theorem fa_assignable (w:World):(ReflectliteType.relation "AssignableTo" ReflectliteType.assignableTo #[.agg #[.pointer (some ⟨2,61,none⟩)],.iface 150 (.agg #[.pointer (some ⟨2,61,none⟩)])]).run Tryz.prog w=.ok (.bool true) w:=by kernel_rfl
theorem fa_valueOfE (k:Int) (w:World):(ReflectliteValue.unpack (.iface 61 (.agg #[.int .i64 k]))).run Tryz.prog w
  = .ok (.agg #[.pointer (some ⟨2,61,none⟩),.pointer (some ⟨w.heap.size,0,none⟩),.int .u64 153]) (w.alloc (.cells #[.int .i64 k] 61)):=by kernel_rfl
theorem fa_elemOfP (w:World):(Rtype.elem? 63).run Tryz.prog w=.ok (some 61) w:=by kernel_rfl
theorem fa_mkE (p:Addr) (w:World):(ReflectliteValue.mk 61 p ReflectliteValue.flagAddr).run Tryz.prog w=.ok (.agg #[.pointer (some ⟨2,61,none⟩),.pointer (some p),.int .u64 409]) w:=by kernel_rfl
theorem fa_elemV (a p:Addr) (W:World) (ha:W.cell? a=some (.pointer (some p))) :
  (ReflectliteValue.method (ReflectliteValue.valueError "reflectlite.Value.Elem" 0) ReflectliteValue.elem #[.agg #[.pointer (some ⟨2,63,none⟩),.pointer (some a),.int .u64 150]]).run Tryz.prog W
   = .ok (.agg #[.pointer (some ⟨2,61,none⟩),.pointer (some p),.int .u64 409]) W:=by
 rw [as_rlm]
 simp only [Sem.run_bind,fa_partsP,Result.andThen]
 simp [ReflectliteValue.elem,loadVar,isAgg,underlying,Tryz.underlying63,ha,Result.andThen,fa_elemOfP,fa_mkE]
theorem fa_partsEa (a:Addr) (w:World):(ReflectliteValue.parts (.agg #[.pointer (some ⟨2,61,none⟩),.pointer (some a),.int .u64 409])).run Tryz.prog w=.ok (some (61,a,409)) w:=by kernel_rfl
theorem fa_partsE (a:Addr) (w:World):(ReflectliteValue.parts (.agg #[.pointer (some ⟨2,61,none⟩),.pointer (some a),.int .u64 153])).run Tryz.prog w=.ok (some (61,a,153)) w:=by kernel_rfl
theorem fa_direct (w:World):(Rtype.directlyAssignable 61 61).run Tryz.prog w=.ok true w:=by kernel_rfl
theorem fa_set (ta b:Addr) (k:Int) (old:Value) (W:World) (hb:W.cell? b=some (.int .i64 k)) (ht:W.cell? ta=some old) (hf:W.frozen? ta=false) :
  (ReflectliteValue.set #[.agg #[.pointer (some ⟨2,61,none⟩),.pointer (some ta),.int .u64 409],.agg #[.pointer (some ⟨2,61,none⟩),.pointer (some b),.int .u64 153]]).run Tryz.prog W
   = .ok (.tuple #[]) (W.setCell ta (.int .i64 k)):=by
 rw [as_rls]
 simp only [Sem.run_bind,fa_partsEa,fa_partsE,Result.andThen]
 have hlc:(loadCells b 1).run Tryz.prog W=.ok #[.int .i64 k] W:=run_loadCells_list W b [.int .i64 k] (fun j v h=>by
  cases j with
  | zero=>simp at h;subst h;simpa [Addr.add] using hb
  | succ j=>simp at h)
 have hss:(store ta (.int .i64 k)).run Tryz.prog W=.ok () (W.setCell ta (.int .i64 k)):=by
  rw [run_store Tryz.prog W ta _ _ (by rfl)]
  simp [ht,hf]
 simp [ReflectliteValue.flagAddr,loadVar,isAgg,underlying,Tryz.underlying61,Result.andThen,fa_direct,storeVar,Value.cells,storeCells,Addr.add,hlc,hss]
set_option maxRecDepth 100000 in
set_option maxHeartbeats 4000000 in
theorem fa_hit (k:Int) (t:Addr) (old:Value) (w:World) (hg:Handle w) (ht0:w.cell? t=some old) (hf0:w.frozen? t=false) :
  Calls Tryz.prog 15 #[.iface 61 (.agg #[.int .i64 k]),.iface 63 (.pointer (some t))] w fun ev w'=>ev=.returned (.bool true)∧w'=((((w.alloc (.cells #[.pointer (some t)] 63)).alloc (.cells #[.pointer (some ⟨2,63,none⟩),.pointer (some ⟨w.heap.size,0,none⟩),.int .u64 150] 102)).alloc (.cells #[.pointer (some ⟨2,63,none⟩),.pointer (some ⟨w.heap.size,0,none⟩),.int .u64 150] 102)).alloc (.cells #[.int .i64 k] 61)).setCell t (.int .i64 k):=by
 have hlt:=hg.lt
 unfold Handle handleV at hg
 have h6:=@run_callFunc_extern Tryz.prog 34 _ (fun args=>ReflectliteValue.unpack (args.getD 0 (.tuple #[]))) Tryz.func34 (by kernel_rfl) (by kernel_rfl) (by kernel_rfl) (by kernel_rfl)
 have h7:=@run_callFunc_extern Tryz.prog 35 _ (ReflectliteValue.methodAny (ReflectliteValue.valueError "reflectlite.Value.Type" 0) (fun t _ _ _=>ReflectliteType.toType t)) Tryz.func35 (by kernel_rfl) (by kernel_rfl) (by kernel_rfl) (by kernel_rfl)
 have h8:=@run_callFunc_extern Tryz.prog 36 _ (ReflectliteValue.method (ReflectliteValue.valueError "reflectlite.Value.IsNil" 0) ReflectliteValue.isNil) Tryz.func36 (by kernel_rfl) (by kernel_rfl) (by kernel_rfl) (by kernel_rfl)
 have h27:=@run_callFunc_extern Tryz.prog 124 _ (ReflectliteType.abiMethod fun t=>do pure (.int .u8 (← Rtype.kind t))) Tryz.func124 (by kernel_rfl) (by kernel_rfl) (by kernel_rfl) (by kernel_rfl)
 have h37:=@run_callFunc_extern Tryz.prog 135 _ (ReflectliteType.method ReflectliteType.elem) Tryz.func135 (by kernel_rfl) (by kernel_rfl) (by kernel_rfl) (by kernel_rfl)
 have h38:=@run_callFunc_extern Tryz.prog 136 _ (ReflectliteType.relation "Implements" ReflectliteType.implements_) Tryz.func136 (by kernel_rfl) (by kernel_rfl) (by kernel_rfl) (by kernel_rfl)
 have h10:=@run_callFunc_extern Tryz.prog 54 _ (ReflectliteType.typeOf) Tryz.func54 (by kernel_rfl) (by kernel_rfl) (by kernel_rfl) (by kernel_rfl)
 have h35:=@run_callFunc_extern Tryz.prog 133 _ (ReflectliteType.relation "AssignableTo" ReflectliteType.assignableTo) Tryz.func133 (by kernel_rfl) (by kernel_rfl) (by kernel_rfl) (by kernel_rfl)
 have h11:=@run_callFunc_extern Tryz.prog 65 _ (ReflectliteValue.method (ReflectliteValue.valueError "reflectlite.Value.Elem" 0) ReflectliteValue.elem) Tryz.func65 (by kernel_rfl) (by kernel_rfl) (by kernel_rfl) (by kernel_rfl)
 have h12:=@run_callFunc_extern Tryz.prog 66 _ ReflectliteValue.set Tryz.func66 (by kernel_rfl) (by kernel_rfl) (by kernel_rfl) (by kernel_rfl)
 have tO:=fa_typeOf
 have mA:=as_methodAssignableTo
 have a25:=fa_assignable
 have v25:=fa_valueOfE
 have f6:=fa_valueOfP
 have f7:=fa_typeP
 have mK:=as_methodKind
 have mE:=as_methodElem
 have mI:=as_methodImplements
 have k27:=fa_kindP
 have k25:=fa_kindE
 have e27:=fa_elemP
 have i25:=fa_implements
 have n8:=fa_isNilP ⟨w.heap.size,0,none⟩ t ((w.alloc (.cells #[.pointer (some t)] 63)).alloc (.cells #[.pointer (some ⟨2,63,none⟩),.pointer (some ⟨w.heap.size,0,none⟩),.int .u64 150] 102)) (by simp)
 have hg2:((w.alloc (.cells #[.pointer (some t)] 63)).alloc (.cells #[.pointer (some ⟨2,63,none⟩),.pointer (some ⟨w.heap.size,0,none⟩),.int .u64 150] 102)).cell? ⟨1,0,none⟩=some (.iface 150 (.agg #[.pointer (some ⟨2,33,none⟩)])):=by
  rw [World.cell?_alloc_lt _ _ ⟨1,0,none⟩ (by first|(simp;done)|(simp;omega)),World.cell?_alloc_lt _ _ ⟨1,0,none⟩ hlt];exact hg
 have htl:t.block<w.heap.size:=by
  rcases Nat.lt_or_ge t.block w.heap.size with h|h
  ·exact h
  ·simp [World.cell?,Array.getElem?_eq_none h] at ht0
 have el:=fa_elemV ⟨w.heap.size,0,none⟩ t (((w.alloc (.cells #[.pointer (some t)] 63)).alloc (.cells #[.pointer (some ⟨2,63,none⟩),.pointer (some ⟨w.heap.size,0,none⟩),.int .u64 150] 102)).alloc (.cells #[.pointer (some ⟨2,63,none⟩),.pointer (some ⟨w.heap.size,0,none⟩),.int .u64 150] 102)) (by rw [World.cell?_alloc_lt _ _ ⟨w.heap.size,0,none⟩ (by first|(simp;done)|(simp;omega))];simp)
 have st:=fa_set t ⟨w.heap.size+1+1+1,0,none⟩ k old ((((w.alloc (.cells #[.pointer (some t)] 63)).alloc (.cells #[.pointer (some ⟨2,63,none⟩),.pointer (some ⟨w.heap.size,0,none⟩),.int .u64 150] 102)).alloc (.cells #[.pointer (some ⟨2,63,none⟩),.pointer (some ⟨w.heap.size,0,none⟩),.int .u64 150] 102)).alloc (.cells #[.int .i64 k] 61))
  (by rw [World.cell?_alloc_at _ _ _ _ (by simp)];rfl)
  (by rw [World.cell?_alloc_lt _ _ t (by first|(simp;done)|(simp;omega)),World.cell?_alloc_lt _ _ t (by first|(simp;done)|(simp;omega)),World.cell?_alloc_lt _ _ t (by first|(simp;done)|(simp;omega)),World.cell?_alloc_lt _ _ t htl];exact ht0)
  (by rw [World.frozen?_alloc_old _ _ t (by first|(simp;done)|(simp;omega)),World.frozen?_alloc_old _ _ t (by first|(simp;done)|(simp;omega)),World.frozen?_alloc_old _ _ t (by first|(simp;done)|(simp;omega)),World.frozen?_alloc_old _ _ t (Nat.ne_of_lt htl)];exact hf0)
 go_enter Tryz.func15,Tryz.ntmps15
 go_wp2
 refine wp_loop_rounds 1 ?_
 rw [rounds_succ]
 go_wp2
 go_ret
 exact ⟨rfl,rfl⟩
theorem fa_not (w:World):(ReflectliteType.relation "AssignableTo" ReflectliteType.assignableTo #[.agg #[.pointer (some ⟨2,36,none⟩)],.iface 150 (.agg #[.pointer (some ⟨2,61,none⟩)])]).run Tryz.prog w=.ok (.bool false) w:=by kernel_rfl
theorem fa_noAs (v:Value) (w:World):(Instr.typeAssert (.iface 36 v) 33 154 true).run Tryz.prog w=.ok (.tuple #[.nilIface,.bool false]) w:=run_typeAssert_lacksB Tryz.underlying154 (by kernel_rfl) (by kernel_rfl) v 33 w
theorem fa_noUn (v:Value) (w:World):(Instr.typeAssert (.iface 36 v) 33 157 true).run Tryz.prog w=.ok (.tuple #[.nilIface,.bool false]) w:=run_typeAssert_lacksB Tryz.underlying157 (by kernel_rfl) (by kernel_rfl) v 33 w
theorem fa_noUns (v:Value) (w:World):(Instr.typeAssert (.iface 36 v) 33 159 true).run Tryz.prog w=.ok (.tuple #[.nilIface,.bool false]) w:=run_typeAssert_lacksB Tryz.underlying159 (by kernel_rfl) (by kernel_rfl) v 33 w
set_option maxRecDepth 100000 in
set_option maxHeartbeats 4000000 in
theorem fa_miss (k:Int) (t:Addr) (old:Value) (w:World) (hg:Handle w) (ht0:w.cell? t=some old) (hf0:w.frozen? t=false) :
  Calls Tryz.prog 15 #[.iface 36 (.int .i64 k),.iface 63 (.pointer (some t))] w fun ev w'=>ev=.returned (.bool false)∧w'=(((w.alloc (.cells #[.pointer (some t)] 63)).alloc (.cells #[.pointer (some ⟨2,63,none⟩),.pointer (some ⟨w.heap.size,0,none⟩),.int .u64 150] 102)).alloc (.cells #[.pointer (some ⟨2,63,none⟩),.pointer (some ⟨w.heap.size,0,none⟩),.int .u64 150] 102)):=by
 have hlt:=hg.lt
 unfold Handle handleV at hg
 have h6:=@run_callFunc_extern Tryz.prog 34 _ (fun args=>ReflectliteValue.unpack (args.getD 0 (.tuple #[]))) Tryz.func34 (by kernel_rfl) (by kernel_rfl) (by kernel_rfl) (by kernel_rfl)
 have h7:=@run_callFunc_extern Tryz.prog 35 _ (ReflectliteValue.methodAny (ReflectliteValue.valueError "reflectlite.Value.Type" 0) (fun t _ _ _=>ReflectliteType.toType t)) Tryz.func35 (by kernel_rfl) (by kernel_rfl) (by kernel_rfl) (by kernel_rfl)
 have h8:=@run_callFunc_extern Tryz.prog 36 _ (ReflectliteValue.method (ReflectliteValue.valueError "reflectlite.Value.IsNil" 0) ReflectliteValue.isNil) Tryz.func36 (by kernel_rfl) (by kernel_rfl) (by kernel_rfl) (by kernel_rfl)
 have h27:=@run_callFunc_extern Tryz.prog 124 _ (ReflectliteType.abiMethod fun t=>do pure (.int .u8 (← Rtype.kind t))) Tryz.func124 (by kernel_rfl) (by kernel_rfl) (by kernel_rfl) (by kernel_rfl)
 have h37:=@run_callFunc_extern Tryz.prog 135 _ (ReflectliteType.method ReflectliteType.elem) Tryz.func135 (by kernel_rfl) (by kernel_rfl) (by kernel_rfl) (by kernel_rfl)
 have h38:=@run_callFunc_extern Tryz.prog 136 _ (ReflectliteType.relation "Implements" ReflectliteType.implements_) Tryz.func136 (by kernel_rfl) (by kernel_rfl) (by kernel_rfl) (by kernel_rfl)
 have h10:=@run_callFunc_extern Tryz.prog 54 _ (ReflectliteType.typeOf) Tryz.func54 (by kernel_rfl) (by kernel_rfl) (by kernel_rfl) (by kernel_rfl)
 have h35:=@run_callFunc_extern Tryz.prog 133 _ (ReflectliteType.relation "AssignableTo" ReflectliteType.assignableTo) Tryz.func133 (by kernel_rfl) (by kernel_rfl) (by kernel_rfl) (by kernel_rfl)
 have h11:=@run_callFunc_extern Tryz.prog 65 _ (ReflectliteValue.method (ReflectliteValue.valueError "reflectlite.Value.Elem" 0) ReflectliteValue.elem) Tryz.func65 (by kernel_rfl) (by kernel_rfl) (by kernel_rfl) (by kernel_rfl)
 have h12:=@run_callFunc_extern Tryz.prog 66 _ ReflectliteValue.set Tryz.func66 (by kernel_rfl) (by kernel_rfl) (by kernel_rfl) (by kernel_rfl)
 have tO:=as_typeOf
 have mA:=as_methodAssignableTo
 have a25:=fa_not
 have f6:=fa_valueOfP
 have f7:=fa_typeP
 have mK:=as_methodKind
 have mE:=as_methodElem
 have mI:=as_methodImplements
 have k27:=fa_kindP
 have k25:=fa_kindE
 have e27:=fa_elemP
 have i25:=fa_implements
 have n8:=fa_isNilP ⟨w.heap.size,0,none⟩ t ((w.alloc (.cells #[.pointer (some t)] 63)).alloc (.cells #[.pointer (some ⟨2,63,none⟩),.pointer (some ⟨w.heap.size,0,none⟩),.int .u64 150] 102)) (by simp)
 have hg2:((w.alloc (.cells #[.pointer (some t)] 63)).alloc (.cells #[.pointer (some ⟨2,63,none⟩),.pointer (some ⟨w.heap.size,0,none⟩),.int .u64 150] 102)).cell? ⟨1,0,none⟩=some (.iface 150 (.agg #[.pointer (some ⟨2,33,none⟩)])):=by
  rw [World.cell?_alloc_lt _ _ ⟨1,0,none⟩ (by first|(simp;done)|(simp;omega)),World.cell?_alloc_lt _ _ ⟨1,0,none⟩ hlt];exact hg
 have htl:t.block<w.heap.size:=by
  rcases Nat.lt_or_ge t.block w.heap.size with h|h
  ·exact h
  ·simp [World.cell?,Array.getElem?_eq_none h] at ht0
 have na:=fa_noAs
 have nu:=fa_noUn
 have nus:=fa_noUns
 go_enter Tryz.func15,Tryz.ntmps15
 go_wp2
 refine wp_loop_rounds 1 ?_
 rw [rounds_succ]
 go_wp2
 go_ret
 exact ⟨rfl,rfl⟩
theorem fa_nil (t:Addr) (w:World):Calls Tryz.prog 15 #[.nilIface,.iface 63 (.pointer (some t))] w fun ev w'=>ev=.returned (.bool false)∧w'=w:=by
 go_enter Tryz.func15,Tryz.ntmps15
 go_wp2
 go_ret
 exact ⟨rfl,rfl⟩
end Go.Proofs.YtchngeagnlngaaaGreatDoor
end
