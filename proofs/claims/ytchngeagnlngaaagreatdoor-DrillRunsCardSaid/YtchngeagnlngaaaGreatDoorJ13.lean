/- Texts joined: Told, Ref1, Blank, RefFix. -/
import Derived.Test.YtchngeagnlngaaaGreatDoorJ06
import Derived.Test.YtchngeagnlngaaaGreatDoorJ01
import Derived.Test.YtchngeagnlngaaaGreatDoorJ05
import Derived.WalkKit
import Derived.LaidEql
import Derived.Stop.Asserts
import Derived.RowKitTokens
import Derived.Test.YtchngeagnlngaaaGreatDoorJ10
import Derived.Test.YtchngeagnlngaaaGreatDoorJ12
import Derived.Lib.Hide
set_option linter.unusedVariables false
set_option linter.unusedSimpArgs false
section
namespace Go.Proofs.YtchngeagnlngaaaGreatDoor
open Go.RowKit Go.Extern.Stop Go.Stop Go.Extern Gal
def handleV:Value:=.iface 150 (.agg #[.pointer (some ⟨2,33,none⟩)])
def Handle (w:World):Prop:=w.cell? ⟨1,0,none⟩=some handleV
theorem Handle.lt {w:World} (h:Handle w):1<w.heap.size:=World.block_lt_of_cell? w _ h
theorem Handle.keep {w w':World} (h:Handle w) (hb:Below w.heap.size w w'):Handle w':=(hb.cell (p:=⟨1,0,none⟩) h.lt).trans h
theorem Handle.farS {S:Nat→Prop} {w w':World} (h:Handle w) (hf:Far S w w') (hs:¬ S 1):Handle w':=(World.cell?_of_block (a:=⟨1,0,none⟩) (hf.block _ h.lt hs)).trans h
theorem Handle.alloc {w:World} (h:Handle w) (o:Obj):Handle (w.alloc o):=h.keep ((Below.refl w.heap.size w).alloc (Nat.le_refl _) o)
theorem Handle.drewN {w:World} (h:Handle w) (k:Nat):Handle (w.drewN k):=h.keep ⟨rfl,rfl,rfl,Nat.le_refl _,fun _ _=>rfl⟩
theorem as_valueOfP (t:Addr) (w:World):(ReflectliteValue.unpack (.iface 130 (.pointer (some t)))).run Tryz.prog w
  = .ok (.agg #[.pointer (some ⟨2,130,none⟩),.pointer (some ⟨w.heap.size,0,none⟩),.int .u64 150]) (w.alloc (.cells #[.pointer (some t)] 130)):=by kernel_rfl
theorem as_typeP (a:Addr) (w:World):(ReflectliteValue.methodAny (ReflectliteValue.valueError "reflectlite.Value.Type" 0) (fun t _ _ _=>ReflectliteType.toType t) #[.agg #[.pointer (some ⟨2,130,none⟩),.pointer (some a),.int .u64 150]]).run Tryz.prog w
  = .ok (.iface 150 (.agg #[.pointer (some ⟨2,130,none⟩)])) w:=by kernel_rfl
theorem as_kindP (w:World):((ReflectliteType.abiMethod fun t=>(fun a:Nat=>Value.int IntKind.u8 (a:Int)) <$> Rtype.kind t) #[.pointer (some ⟨2,130,none⟩)]).run Tryz.prog w=.ok (.int .u8 22) w:=by kernel_rfl
theorem as_kindE (w:World):((ReflectliteType.abiMethod fun t=>(fun a:Nat=>Value.int IntKind.u8 (a:Int)) <$> Rtype.kind t) #[.pointer (some ⟨2,36,none⟩)]).run Tryz.prog w=.ok (.int .u8 2) w:=by kernel_rfl
theorem as_rlm (z:Sem Value) (f:TypeId→Addr→Nat→Nat→Sem Value) (v:Value) :
  ReflectliteValue.method z f #[v]=(do match ← ReflectliteValue.parts v with|none=>z|some (t,a,fl)=>f t a fl (fl % 32)):=rfl
theorem as_partsP (a:Addr) (w:World):(ReflectliteValue.parts (.agg #[.pointer (some ⟨2,130,none⟩),.pointer (some a),.int .u64 150])).run Tryz.prog w=.ok (some (130,a,150)) w:=by kernel_rfl
theorem as_isNilP (a p:Addr) (W:World) (ha:W.cell? a=some (.pointer (some p))) :
  (ReflectliteValue.method (ReflectliteValue.valueError "reflectlite.Value.IsNil" 0) ReflectliteValue.isNil #[.agg #[.pointer (some ⟨2,130,none⟩),.pointer (some a),.int .u64 150]]).run Tryz.prog W=.ok (.bool false) W:=by
 rw [as_rlm]
 simp only [Sem.run_bind,as_partsP,Result.andThen]
 simp [ReflectliteValue.isNil,loadVar,isAgg,underlying,Tryz.underlying130,ha,Result.andThen]
theorem as_methodKind (h:Value) (w:World):(Go.method 353 150 (.agg #[h]) "Kind").run Tryz.prog w=.ok (124,h) w:=by kernel_rfl
theorem as_methodElem (h:Value) (w:World):(Go.method 353 150 (.agg #[h]) "Elem").run Tryz.prog w=.ok (135,.agg #[h]) w:=by kernel_rfl
theorem as_methodImplements (h:Value) (w:World):(Go.method 353 150 (.agg #[h]) "Implements").run Tryz.prog w=.ok (136,.agg #[h]) w:=by kernel_rfl
theorem as_methodAssignableTo (h:Value) (w:World):(Go.method 353 150 (.agg #[h]) "AssignableTo").run Tryz.prog w=.ok (133,.agg #[h]) w:=by kernel_rfl
theorem as_elemP (w:World):(ReflectliteType.method ReflectliteType.elem #[.agg #[.pointer (some ⟨2,130,none⟩)]]).run Tryz.prog w=.ok (.iface 150 (.agg #[.pointer (some ⟨2,36,none⟩)])) w:=by kernel_rfl
theorem as_implements (w:World):(ReflectliteType.relation "Implements" ReflectliteType.implements_ #[.agg #[.pointer (some ⟨2,36,none⟩)],.iface 150 (.agg #[.pointer (some ⟨2,33,none⟩)])]).run Tryz.prog w=.ok (.bool true) w:=by kernel_rfl
theorem as_typeOf (v:Value) (w:World):(ReflectliteType.typeOf #[.iface 36 v]).run Tryz.prog w=.ok (.iface 150 (.agg #[.pointer (some ⟨2,36,none⟩)])) w:=by kernel_rfl
theorem as_assignable (w:World):(ReflectliteType.relation "AssignableTo" ReflectliteType.assignableTo #[.agg #[.pointer (some ⟨2,36,none⟩)],.iface 150 (.agg #[.pointer (some ⟨2,36,none⟩)])]).run Tryz.prog w=.ok (.bool true) w:=by kernel_rfl
theorem as_valueOfE (k:Int) (w:World):(ReflectliteValue.unpack (.iface 36 (.int .i64 k))).run Tryz.prog w
  = .ok (.agg #[.pointer (some ⟨2,36,none⟩),.pointer (some ⟨w.heap.size,0,none⟩),.int .u64 130]) (w.alloc (.cells #[.int .i64 k] 36)):=by kernel_rfl
theorem as_elemOfP (w:World):(Rtype.elem? 130).run Tryz.prog w=.ok (some 36) w:=by kernel_rfl
theorem as_mkE (p:Addr) (w:World):(ReflectliteValue.mk 36 p ReflectliteValue.flagAddr).run Tryz.prog w=.ok (.agg #[.pointer (some ⟨2,36,none⟩),.pointer (some p),.int .u64 386]) w:=by kernel_rfl
theorem as_elemV (a p:Addr) (W:World) (ha:W.cell? a=some (.pointer (some p))) :
  (ReflectliteValue.method (ReflectliteValue.valueError "reflectlite.Value.Elem" 0) ReflectliteValue.elem #[.agg #[.pointer (some ⟨2,130,none⟩),.pointer (some a),.int .u64 150]]).run Tryz.prog W
   = .ok (.agg #[.pointer (some ⟨2,36,none⟩),.pointer (some p),.int .u64 386]) W:=by
 rw [as_rlm]
 simp only [Sem.run_bind,as_partsP,Result.andThen]
 simp [ReflectliteValue.elem,loadVar,isAgg,underlying,Tryz.underlying130,ha,Result.andThen,as_elemOfP,as_mkE]
theorem as_rls (v x:Value):ReflectliteValue.set #[v,x]=(do
    let (some (dst,a,fl),some (src,b,_)):=(← ReflectliteValue.parts v,← ReflectliteValue.parts x)
      | unsupported (.noEntry "extern/(internal/reflectlite.Value).Set.zeroValue")
    if fl / ReflectliteValue.flagAddr % 2 == 0 then unsupported (.noEntry "extern/(internal/reflectlite.Value).Set.unaddressable")
    let val ← loadVar src b
    if ← Rtype.directlyAssignable dst src then storeVar dst a val
    else if ← Rtype.implements dst src then
      if (← Rtype.kind src) == 20 then
        match val with
        | .nilIface=>unsupported (.noEntry "extern/reflectlite: a nil value of one interface type handed on as a value of another")
        | _=>storeVar dst a val
      else storeVar dst a (.iface src val)
    else panicString ("reflectlite.Set: value of type " ++ (← Rtype.spelt src) ++ " is not assignable to type " ++ (← Rtype.spelt dst))
    pure (.tuple #[])):=rfl
theorem as_partsEa (a:Addr) (w:World):(ReflectliteValue.parts (.agg #[.pointer (some ⟨2,36,none⟩),.pointer (some a),.int .u64 386])).run Tryz.prog w=.ok (some (36,a,386)) w:=by kernel_rfl
theorem as_partsE (a:Addr) (w:World):(ReflectliteValue.parts (.agg #[.pointer (some ⟨2,36,none⟩),.pointer (some a),.int .u64 130])).run Tryz.prog w=.ok (some (36,a,130)) w:=by kernel_rfl
theorem as_direct (w:World):(Rtype.directlyAssignable 36 36).run Tryz.prog w=.ok true w:=by kernel_rfl
theorem as_set (ta b:Addr) (k:Int) (old:Value) (W:World) (hb:W.cell? b=some (.int .i64 k)) (ht:W.cell? ta=some old) (hf:W.frozen? ta=false) :
  (ReflectliteValue.set #[.agg #[.pointer (some ⟨2,36,none⟩),.pointer (some ta),.int .u64 386],.agg #[.pointer (some ⟨2,36,none⟩),.pointer (some b),.int .u64 130]]).run Tryz.prog W
   = .ok (.tuple #[]) (W.setCell ta (.int .i64 k)):=by
 rw [as_rls]
 simp only [Sem.run_bind,as_partsEa,as_partsE,Result.andThen]
 simp [ReflectliteValue.flagAddr,loadVar,isAgg,underlying,Tryz.underlying36,hb,Result.andThen,as_direct,storeVar,Value.cells,storeCells,Addr.add]
 rw [run_store Tryz.prog W ta _ _ (by rfl)]
 simp [ht,hf]
set_option maxRecDepth 100000 in
set_option maxHeartbeats 4000000 in
theorem as_hit (k:Int) (t:Addr) (old:Value) (w:World) (hg:Handle w) (ht0:w.cell? t=some old) (hf0:w.frozen? t=false) :
  Calls Tryz.prog 15 #[.iface 36 (.int .i64 k),.iface 130 (.pointer (some t))] w fun ev w'=>ev=.returned (.bool true)∧w'=((((w.alloc (.cells #[.pointer (some t)] 130)).alloc (.cells #[.pointer (some ⟨2,130,none⟩),.pointer (some ⟨w.heap.size,0,none⟩),.int .u64 150] 102)).alloc (.cells #[.pointer (some ⟨2,130,none⟩),.pointer (some ⟨w.heap.size,0,none⟩),.int .u64 150] 102)).alloc (.cells #[.int .i64 k] 36)).setCell t (.int .i64 k):=by
 have hlt:=hg.lt
 unfold Handle handleV at hg
 have h6:=@run_callFunc_extern Tryz.prog 34 _ (fun args=>ReflectliteValue.unpack (args.getD 0 (.tuple #[]))) Tryz.func34 (by kernel_rfl) (by kernel_rfl) (by kernel_rfl) (by kernel_rfl)
 have h7:=@run_callFunc_extern Tryz.prog 35 _ (ReflectliteValue.methodAny (ReflectliteValue.valueError "reflectlite.Value.Type" 0) (fun t _ _ _=>ReflectliteType.toType t)) Tryz.func35 (by kernel_rfl) (by kernel_rfl) (by kernel_rfl) (by kernel_rfl)
 have h8:=@run_callFunc_extern Tryz.prog 36 _ (ReflectliteValue.method (ReflectliteValue.valueError "reflectlite.Value.IsNil" 0) ReflectliteValue.isNil) Tryz.func36 (by kernel_rfl) (by kernel_rfl) (by kernel_rfl) (by kernel_rfl)
 have h27:=@run_callFunc_extern Tryz.prog 124 _ (ReflectliteType.abiMethod fun t=>do pure (.int .u8 (← Rtype.kind t))) Tryz.func124 (by kernel_rfl) (by kernel_rfl) (by kernel_rfl) (by kernel_rfl)
 have h37:=@run_callFunc_extern Tryz.prog 135 _ (ReflectliteType.method ReflectliteType.elem) Tryz.func135 (by kernel_rfl) (by kernel_rfl) (by kernel_rfl) (by kernel_rfl)
 have h38:=@run_callFunc_extern Tryz.prog 136 _ (ReflectliteType.relation "Implements" ReflectliteType.implements_) Tryz.func136 (by kernel_rfl) (by kernel_rfl) (by kernel_rfl) (by kernel_rfl)
 have h10:=@run_callFunc_extern Tryz.prog 54 _ (ReflectliteType.typeOf) Tryz.func54 (by kernel_rfl) (by kernel_rfl) (by kernel_rfl) (by kernel_rfl)
 have h35:=@run_callFunc_extern Tryz.prog 133 _ (ReflectliteType.relation "AssignableTo" ReflectliteType.assignableTo) Tryz.func133 (by kernel_rfl) (by kernel_rfl) (by kernel_rfl) (by kernel_rfl)
 have h11:=@run_callFunc_extern Tryz.prog 65 _ (ReflectliteValue.method (ReflectliteValue.valueError "reflectlite.Value.Elem" 0) ReflectliteValue.elem) Tryz.func65 (by kernel_rfl) (by kernel_rfl) (by kernel_rfl) (by kernel_rfl)
 have h12:=@run_callFunc_extern Tryz.prog 66 _ ReflectliteValue.set Tryz.func66 (by kernel_rfl) (by kernel_rfl) (by kernel_rfl) (by kernel_rfl)
 have tO:=as_typeOf
 have mA:=as_methodAssignableTo
 have a25:=as_assignable
 have v25:=as_valueOfE
 have f6:=as_valueOfP
 have f7:=as_typeP
 have mK:=as_methodKind
 have mE:=as_methodElem
 have mI:=as_methodImplements
 have k27:=as_kindP
 have k25:=as_kindE
 have e27:=as_elemP
 have i25:=as_implements
 have n8:=as_isNilP ⟨w.heap.size,0,none⟩ t ((w.alloc (.cells #[.pointer (some t)] 130)).alloc (.cells #[.pointer (some ⟨2,130,none⟩),.pointer (some ⟨w.heap.size,0,none⟩),.int .u64 150] 102)) (by simp)
 have hg2:((w.alloc (.cells #[.pointer (some t)] 130)).alloc (.cells #[.pointer (some ⟨2,130,none⟩),.pointer (some ⟨w.heap.size,0,none⟩),.int .u64 150] 102)).cell? ⟨1,0,none⟩=some (.iface 150 (.agg #[.pointer (some ⟨2,33,none⟩)])):=by
  rw [World.cell?_alloc_lt _ _ ⟨1,0,none⟩ (by first|(simp;done)|(simp;omega)),World.cell?_alloc_lt _ _ ⟨1,0,none⟩ hlt];exact hg
 have htl:t.block<w.heap.size:=by
  rcases Nat.lt_or_ge t.block w.heap.size with h|h
  ·exact h
  ·simp [World.cell?,Array.getElem?_eq_none h] at ht0
 have el:=as_elemV ⟨w.heap.size,0,none⟩ t (((w.alloc (.cells #[.pointer (some t)] 130)).alloc (.cells #[.pointer (some ⟨2,130,none⟩),.pointer (some ⟨w.heap.size,0,none⟩),.int .u64 150] 102)).alloc (.cells #[.pointer (some ⟨2,130,none⟩),.pointer (some ⟨w.heap.size,0,none⟩),.int .u64 150] 102)) (by rw [World.cell?_alloc_lt _ _ ⟨w.heap.size,0,none⟩ (by first|(simp;done)|(simp;omega))];simp)
 have st:=as_set t ⟨w.heap.size+1+1+1,0,none⟩ k old ((((w.alloc (.cells #[.pointer (some t)] 130)).alloc (.cells #[.pointer (some ⟨2,130,none⟩),.pointer (some ⟨w.heap.size,0,none⟩),.int .u64 150] 102)).alloc (.cells #[.pointer (some ⟨2,130,none⟩),.pointer (some ⟨w.heap.size,0,none⟩),.int .u64 150] 102)).alloc (.cells #[.int .i64 k] 36))
  (by rw [World.cell?_alloc_at _ _ _ _ (by simp)];rfl)
  (by rw [World.cell?_alloc_lt _ _ t (by first|(simp;done)|(simp;omega)),World.cell?_alloc_lt _ _ t (by first|(simp;done)|(simp;omega)),World.cell?_alloc_lt _ _ t (by first|(simp;done)|(simp;omega)),World.cell?_alloc_lt _ _ t htl];exact ht0)
  (by rw [World.frozen?_alloc_old _ _ t (by first|(simp;done)|(simp;omega)),World.frozen?_alloc_old _ _ t (by first|(simp;done)|(simp;omega)),World.frozen?_alloc_old _ _ t (by first|(simp;done)|(simp;omega)),World.frozen?_alloc_old _ _ t (Nat.ne_of_lt htl)];exact hf0)
 go_enter Tryz.func15,Tryz.ntmps15
 go_wp2
 refine wp_loop_rounds 1 ?_
 rw [rounds_succ]
 go_wp2
 go_ret
 exact ⟨rfl,rfl⟩
theorem told_any (k:Int) (w:World) (hg:Handle w):Calls Tryz.prog 23 #[errV k] w fun e w'=>e=.returned (.int .i64 k)∧Below w.heap.size w w':=by
 by_cases hk:k=0
 ·subst hk
  rw [errV_nil rfl]
  go_enter Tryz.func23,Tryz.ntmps23
  go_wp2
  go_ret
  exact ⟨rfl,Below.refl _ _⟩
 ·rw [errV_err hk]
  clear hk
  have hg1:Handle (w.alloc (.cells #[.int .i64 0] 36)):=hg.alloc _
  go_enter Tryz.func23,Tryz.ntmps23
  go_wp2_with fail
  refine (as_hit k ⟨w.heap.size,0,none⟩ (.int .i64 0) _ hg1 (by simp) (by simp)).mono ?_
  rintro e w' ⟨rfl,rfl⟩
  go_wp2
  go_ret
  exact ⟨rfl,Below.x0⟩
theorem error_any (k e:Int) (w:World) (hg:Handle w):Calls Tryz.prog 9 #[errV k,.int .i64 e] w fun r w'=>r=.returned (.bool (decide (k=e)))∧Below w.heap.size w w':=by
 by_cases hke:k=e
 ·subst hke
  have h1:(k == k)=true:=by simp
  rw [decide_eq_true rfl]
  go_enter Tryz.func9,Tryz.ntmps9
  go_wp2_with fail
  refine (told_any k _ hg).mono ?_
  rintro e w' ⟨rfl,hb1⟩
  go_wp2
  go_ret
  exact ⟨rfl,(Below.x1 hb1)⟩
 ·have h1:(k == e)=false:=by simp [hke]
  rw [decide_eq_false hke]
  clear hke
  go_enter Tryz.func9,Tryz.ntmps9
  go_wp2_with fail
  refine (told_any k _ hg).mono ?_
  rintro e w' ⟨rfl,hb1⟩
  go_wp2
  go_ret
  exact ⟨rfl,(Below.x1 hb1)⟩
end Go.Proofs.YtchngeagnlngaaaGreatDoor
end
section
namespace Go.Proofs.YtchngeagnlngaaaGreatDoor
open Go.RowKit Gal
theorem clamp_iff (x:Int):clamp x=x ↔ -2147483647≤x∧x≤2147483647:=by unfold clamp;omega
set_option maxRecDepth 100000 in
set_option maxHeartbeats 1000000 in
theorem refMatFault_any (m:Mat) (v:Value) (w:World) (h:MatAt w v m) :
  Calls Tryz.prog 39 #[v] w fun e w'=>e=.returned (.int .i64 m.fault)∧Below w.heap.size w w':=by
 obtain ⟨r,c,xs⟩:=m
 obtain ⟨a,n,cap,b,off,rfl,hm⟩:=h
 unfold Mat.fault
 dsimp only at hm ⊢
 by_cases h1:r<0∨24<r∨c<0∨12<c
 ·have hf:matFault r c xs=1:=by unfold matFault;rw [if_pos h1]
  rw [hf]
  clear hf hm
  go_enter Tryz.func39,Tryz.ntmps39
  go_wp2
  all_goals (go_ret;exact ⟨rfl,Below.x0⟩)
 ·have g1:0≤r∧r≤24∧0≤c∧c≤12:=by omega
  obtain ⟨r0,r1,c0,c1⟩:=g1
  obtain ⟨R,rfl⟩:=Int.eq_ofNat_of_zero_le r0
  obtain ⟨C,rfl⟩:=Int.eq_ofNat_of_zero_le c0
  have hrc:(R:Int)*C≤288:=by
   have:=Nat.mul_le_mul (show R≤24 by omega) (show C≤12 by omega)
   rw [← Int.natCast_mul];omega
  have hrc0:0≤(R:Int)*C:=by rw [← Int.natCast_mul];omega
  have hl:=hm.len
  have hmx:=hm.max
  unfold maxLen at hmx
  by_cases h2:(n:Int)=R*C
  ·have hne:((n:Int) != R*C)=false:=by simp [h2]
   have hn:n≤288:=by omega
   have hf:matFault R C xs=if inEnds xs then 0 else 1:=by unfold matFault;rw [if_neg h1,if_neg (by rw [hl];omega)]
   have HF:=Lib.hid hf
   clear hf h2 h1
   go_enter Tryz.func39,Tryz.ntmps39
   go_wp2
   go_loop [3] (fun i=>∃ k:Nat,k≤n∧i=.int .i64 k∧∀ j,j<k→clamp (ix xs j)=ix xs j) (fun i=>n - (intOf i).toNat)
   case atStart=>exact ⟨0,Nat.zero_le _,rfl,fun j hj=>absurd hj (Nat.not_lt_zero _)⟩
   case round=>
    obtain ⟨k,hk,rfl,hpre⟩:=hrel
    have HP:=Lib.hid hpre
    clear hpre
    by_cases hlt:k<n
    ·have hn0:0<n:=by omega
     obtain rfl:=hm.ptr hn0
     have hb0:=hm.lt hn0
     have hb:=lt_add hb0
     have hc:=hm.cell k hlt
     by_cases hx:clamp (ix xs k)=ix xs k
     ·have hxx:=(clamp_iff _).1 hx
      have y1:decide (ix xs k < -2147483647)=false:=decide_eq_false (by omega)
      have y2:decide (2147483647<ix xs k)=false:=decide_eq_false (by omega)
      clear hxx
      have HX:=Lib.hid hx
      clear hx
      go_wp2
      go_round
      case rel=>exact ⟨k+1,by omega,by go_num,fun j hj=>by
       by_cases e:j=k
       ·rw [e];exact HX.out
       ·exact HP.out j (by omega)⟩
      case measure=>simp [intOf];omega
     ·have hor:decide (ix xs k < -2147483647)=true∨decide (ix xs k < -2147483647)=false∧decide (2147483647<ix xs k)=true:=by
       rw [clamp_iff] at hx
       simp only [decide_eq_true_eq,decide_eq_false_iff_not]
       omega
      have HX:=Lib.hid hx
      clear hx
      rcases hor with hor|⟨hor,hor2⟩
      all_goals
       go_wp2
       go_ret
       refine ⟨ret_val ?_,Below.x0⟩
       rw [HF.out,if_neg (fun h=>HX.out (h k (by rw [hl];exact hlt)))]
       rfl
    ·go_wp2
     go_ret
     refine ⟨ret_val ?_,Below.x0⟩
     rw [HF.out,if_pos (show inEnds xs from fun j hj=>HP.out j (by omega))]
     rfl
  ·have hne:((n:Int) != R*C)=true:=by simp [h2]
   have hf:matFault R C xs=2:=by unfold matFault;rw [if_neg h1,if_pos (by rw [hl];exact h2)]
   rw [hf]
   clear hf h1 h2
   go_enter Tryz.func39,Tryz.ntmps39
   go_wp2
   go_ret
   exact ⟨rfl,Below.x0⟩
theorem firstFault_pair (a b:Mat):firstFault [a,b]=if a.fault=0 then b.fault else a.fault:=by
 by_cases h:a.fault=0 <;> by_cases h':b.fault=0 <;> simp [firstFault,h,h']
set_option maxRecDepth 100000 in
set_option maxHeartbeats 1000000 in
theorem refLossFault_any (ma mb:Mat) (va vb:Value) (w:World) (ha:MatAt w va ma) (hb:MatAt w vb mb) :
  Calls Tryz.prog 47 #[va,vb] w fun e w'=>e=.returned (.int .i64 (lossFault ma mb))∧Below w.heap.size w w':=by
 obtain ⟨a0,n0,k0,b0,o0,rfl,h0⟩:=ha
 obtain ⟨a1,n1,k1,b1,o1,rfl,h1⟩:=hb
 have hL:lossFault ma mb=if ma.fault=0 then (if mb.fault=0 then (if ma.rows=mb.rows∧ma.cols=mb.cols then 0 else 2) else mb.fault) else ma.fault:=by
  unfold lossFault
  rw [firstFault_pair]
  by_cases h:ma.fault=0 <;> by_cases h':mb.fault=0 <;> simp [h,h']
 rw [hL]
 clear hL
 by_cases f0:ma.fault=0
 ·rw [if_pos f0]
  by_cases f1:mb.fault=0
  ·rw [if_pos f1]
   have F0:=Lib.hid f0
   have F1:=Lib.hid f1
   clear f0 f1
   by_cases hs:ma.rows=mb.rows∧ma.cols=mb.cols
   ·rw [if_pos hs]
    have e1:(ma.rows != mb.rows)=false:=by simp [hs.1]
    have e2:(ma.cols != mb.cols)=false:=by simp [hs.2]
    clear hs
    go_enter Tryz.func47,Tryz.ntmps47
    go_wp2_with fail
    refine (refMatFault_any ma _ _ (MatAt.mk (h0.alloc _ |>.alloc _))).mono ?_
    rw [F0.out]
    rintro e w1 ⟨rfl,hb1⟩
    have B0:=((Box.new w _ 41).alloc _).keep hb1
    have B0c:=B0.cell
    have B0f:=B0.thawed
    have B0z:=B0.lt
    have B0k:=lt_add B0z
    have B1:=(Box.new' _ (w.heap.size+1) _ 41 (by simp)).keep hb1
    have B1c:=B1.cell
    have B1f:=B1.thawed
    have B1z:=B1.lt
    have B1k:=lt_add B1z
    have hkw1:Below w.heap.size w w1:=(Below.x1 hb1)
    replace h0:=h0.keep hkw1
    replace h1:=h1.keep hkw1
    go_wp2_with fail
    refine (refMatFault_any mb _ _ (MatAt.mk h1)).mono ?_
    rw [F1.out]
    rintro e w2 ⟨rfl,hb2⟩
    have hkw2:Below w1.heap.size w1 w2:=(Below.x1 hb2)
    replace B0:=B0.keep hkw2
    replace B0c:=B0.cell
    replace B0f:=B0.thawed
    replace B0z:=B0.lt
    replace B0k:=lt_add B0z
    replace B1:=B1.keep hkw2
    replace B1c:=B1.cell
    replace B1f:=B1.thawed
    replace B1z:=B1.lt
    replace B1k:=lt_add B1z
    go_wp2
    go_ret
    exact ⟨rfl,(Below.x2 hb2 hb1)⟩
   ·rw [if_neg hs]
    have hor:(ma.rows != mb.rows)=true∨(ma.rows != mb.rows)=false∧(ma.cols != mb.cols)=true:=by
     by_cases h:ma.rows=mb.rows
     ·right;exact ⟨by simp [h],by simp;intro h';exact hs ⟨h,h'⟩⟩
     ·left;simp [h]
    clear hs
    rcases hor with hr|⟨hr,hc⟩
    all_goals
     go_enter Tryz.func47,Tryz.ntmps47
     go_wp2_with fail
     refine (refMatFault_any ma _ _ (MatAt.mk (h0.alloc _ |>.alloc _))).mono ?_
     rw [F0.out]
     rintro e w1 ⟨rfl,hb1⟩
     have B0:=((Box.new w _ 41).alloc _).keep hb1
     have B0c:=B0.cell
     have B0f:=B0.thawed
     have B0z:=B0.lt
     have B0k:=lt_add B0z
     have B1:=(Box.new' _ (w.heap.size+1) _ 41 (by simp)).keep hb1
     have B1c:=B1.cell
     have B1f:=B1.thawed
     have B1z:=B1.lt
     have B1k:=lt_add B1z
     have hkw1:Below w.heap.size w w1:=(Below.x1 hb1)
     replace h0:=h0.keep hkw1
     replace h1:=h1.keep hkw1
     go_wp2_with fail
     refine (refMatFault_any mb _ _ (MatAt.mk h1)).mono ?_
     rw [F1.out]
     rintro e w2 ⟨rfl,hb2⟩
     have hkw2:Below w1.heap.size w1 w2:=(Below.x1 hb2)
     replace B0:=B0.keep hkw2
     replace B0c:=B0.cell
     replace B0f:=B0.thawed
     replace B0z:=B0.lt
     replace B0k:=lt_add B0z
     replace B1:=B1.keep hkw2
     replace B1c:=B1.cell
     replace B1f:=B1.thawed
     replace B1z:=B1.lt
     replace B1k:=lt_add B1z
     go_wp2
     go_ret
     exact ⟨rfl,(Below.x2 hb2 hb1)⟩
  ·rw [if_neg f1]
   have F0:=Lib.hid f0
   have q1:(mb.fault == 0)=false:=by simp [f1]
   clear f0 f1
   go_enter Tryz.func47,Tryz.ntmps47
   go_wp2_with fail
   refine (refMatFault_any ma _ _ (MatAt.mk (h0.alloc _ |>.alloc _))).mono ?_
   rw [F0.out]
   rintro e w1 ⟨rfl,hb1⟩
   have B0:=((Box.new w _ 41).alloc _).keep hb1
   have B0c:=B0.cell
   have B0f:=B0.thawed
   have B0z:=B0.lt
   have B0k:=lt_add B0z
   have B1:=(Box.new' _ (w.heap.size+1) _ 41 (by simp)).keep hb1
   have B1c:=B1.cell
   have B1f:=B1.thawed
   have B1z:=B1.lt
   have B1k:=lt_add B1z
   have hkw1:Below w.heap.size w w1:=(Below.x1 hb1)
   replace h0:=h0.keep hkw1
   replace h1:=h1.keep hkw1
   go_wp2_with fail
   refine (refMatFault_any mb _ _ (MatAt.mk h1)).mono ?_
   rintro e w2 ⟨rfl,hb2⟩
   have hkw2:Below w1.heap.size w1 w2:=(Below.x1 hb2)
   replace B0:=B0.keep hkw2
   replace B0c:=B0.cell
   replace B0f:=B0.thawed
   replace B0z:=B0.lt
   replace B0k:=lt_add B0z
   replace B1:=B1.keep hkw2
   replace B1c:=B1.cell
   replace B1f:=B1.thawed
   replace B1z:=B1.lt
   replace B1k:=lt_add B1z
   go_wp2
   go_ret
   exact ⟨rfl,(Below.x2 hb2 hb1)⟩
 ·rw [if_neg f0]
  have q1:(ma.fault == 0)=false:=by simp [f0]
  clear f0
  go_enter Tryz.func47,Tryz.ntmps47
  go_wp2_with fail
  refine (refMatFault_any ma _ _ (MatAt.mk (h0.alloc _ |>.alloc _))).mono ?_
  rintro e w1 ⟨rfl,hb1⟩
  have B0:=((Box.new w _ 41).alloc _).keep hb1
  have B0c:=B0.cell
  have B0f:=B0.thawed
  have B0z:=B0.lt
  have B0k:=lt_add B0z
  have B1:=(Box.new' _ (w.heap.size+1) _ 41 (by simp)).keep hb1
  have B1c:=B1.cell
  have B1f:=B1.thawed
  have B1z:=B1.lt
  have B1k:=lt_add B1z
  go_wp2
  go_ret
  exact ⟨rfl,(Below.x1 hb1)⟩
end Go.Proofs.YtchngeagnlngaaaGreatDoor
end
section
namespace Go.Proofs.YtchngeagnlngaaaGreatDoor
open Go.RowKit Gal
theorem ints_box {w:World} {b:Nat} {xs:List Int} {t:TypeId} (h:Box w b (xs.map (Value.int .i64)) t) (hl:xs.length≤maxLen):IntsAt w (some ⟨b,0,none⟩) xs.length xs.length b 0 xs:=by
 refine ⟨rfl,Nat.le_refl _,hl,fun _=>rfl,fun _=>h.lt,fun i hi=>?_⟩
 rw [Nat.zero_add,h.cell]
 unfold ix
 rw [List.getElem?_map,List.getElem?_eq_getElem hi]
 rfl
set_option maxRecDepth 100000 in
set_option maxHeartbeats 1000000 in
theorem blank_any (R C:Nat) (hR:R≤24) (hC:C≤24) (w:World) :
  Calls Tryz.prog 43 #[.int .i64 R,.int .i64 C] w fun e w'=>
   ∃ b,e=.returned (.agg #[.int .i64 R,.int .i64 C,.slice (some ⟨b,0,none⟩) (R*C) (R*C)])∧w.heap.size≤b∧Box w' b ((zeros (R*C)).map (Value.int .i64)) 3∧Below w.heap.size w w':=by
 have hrc:R*C≤576:=Nat.mul_le_mul hR hC
 have hrc':(R:Int)*C≤576:=by rw [← Int.natCast_mul];omega
 have hrc0:0≤(R:Int)*C:=by rw [← Int.natCast_mul];omega
 obtain ⟨i0,hi,hz0,hz1,hz2⟩:=info_parts info_int
 have hmk:=fun W=>run_make_rowN (P:=Tryz.prog) 29 3 i0 _ Tryz.underlying29 hi hz0 .i64 .i64 (R*C) (R*C) ((R:Int)*C) ((R:Int)*C) (by rw [Int.natCast_mul]) (by rw [Int.natCast_mul]) (Nat.le_refl _) (by rw [hz2];omega) (by omega) W
 rw [hz1,Nat.mul_one] at hmk
 have hmc:(madeCells (Value.int .i64 0).cells (R*C))=((zeros (R*C)).map (Value.int .i64)).toArray:=by
  apply Array.toList_inj.1
  show (madeCells #[Value.int .i64 0] (R*C)).toList=_
  rw [toList_madeCells_one]
  simp [zeros]
 rw [hmc] at hmk
 clear hmc
 go_enter Tryz.func43,Tryz.ntmps43
 go_wp2
 refine bodyPost_ret (v:=.agg #[.int .i64 R,.int .i64 C,.slice (some ⟨w.heap.size+1,0,none⟩) (R*C) (R*C)]) (by simp [results,Tryz.results43,go_sem]) rfl ⟨w.heap.size+1,rfl,by omega,?_,Below.x0⟩
 exact Box.new' _ _ _ _ (by simp)
end Go.Proofs.YtchngeagnlngaaaGreatDoor
end
section
namespace Go.Proofs.YtchngeagnlngaaaGreatDoor
open Go.RowKit
theorem radd_any (a b:Int) (w:World):Calls Tryz.prog 21 #[.int .i64 a,.int .i64 b] w fun e w'=>e=.returned (.int .i64 (Gal.add a b))∧w=w':=by
 have h1:=Gal.clamp_lo a;have h2:=Gal.clamp_hi a;have h3:=Gal.clamp_lo b;have h4:=Gal.clamp_hi b
 go_enter Tryz.func21,Tryz.ntmps21
 go_wp2_with (go_at_call 49;refine (rclamp_any _ _).mono ?_;rintro e w' ⟨rfl,rfl⟩)
 go_ret
 exact ⟨rfl,rfl⟩
theorem rsub_any (a b:Int) (w:World):Calls Tryz.prog 74 #[.int .i64 a,.int .i64 b] w fun e w'=>e=.returned (.int .i64 (Gal.sub a b))∧w=w':=by
 have h1:=Gal.clamp_lo a;have h2:=Gal.clamp_hi a;have h3:=Gal.clamp_lo b;have h4:=Gal.clamp_hi b
 go_enter Tryz.func74,Tryz.ntmps74
 go_wp2_with (go_at_call 49;refine (rclamp_any _ _).mono ?_;rintro e w' ⟨rfl,rfl⟩)
 go_ret
 exact ⟨rfl,rfl⟩
theorem tdiv_neg {p:Int} (h:p<0):p.tdiv 256 = -((-p) / 256):=by
 have h1:(-(-p)).tdiv 256 = -((-p).tdiv 256):=Int.neg_tdiv _ _
 rw [Int.neg_neg] at h1
 rw [h1,Int.tdiv_eq_ediv_of_nonneg (by omega)]
theorem rmul_any (a b:Int) (w:World):Calls Tryz.prog 75 #[.int .i64 a,.int .i64 b] w fun e w'=>e=.returned (.int .i64 (Gal.mul a b))∧w=w':=by
 have h1:=Gal.clamp_lo a;have h2:=Gal.clamp_hi a;have h3:=Gal.clamp_lo b;have h4:=Gal.clamp_hi b
 obtain ⟨h5,h6⟩:=Gal.mul_bd a b
 have hm:Gal.mul a b=Gal.clamp (Gal.clamp a*Gal.clamp b / 256):=rfl
 rw [hm]
 clear hm
 by_cases h0:Gal.clamp a*Gal.clamp b<0
 ·obtain ⟨Q,hQ⟩:∃ Q,(Gal.clamp a*Gal.clamp b).tdiv 256=Q:=⟨_,rfl⟩
  have hq:=tdiv_neg h0
  rw [hQ] at hq
  have q1:-4611686014132420609≤Q*256:=by omega
  have q2:Q*256≤0:=by omega
  by_cases hz:Q*256=Gal.clamp a*Gal.clamp b
  ·have hne:(Q*256 != Gal.clamp a*Gal.clamp b)=false:=by simp [hz]
   have hr:Gal.clamp a*Gal.clamp b / 256=Q:=by omega
   have HR:=Lib.hid hr
   clear hr hz hq
   go_enter Tryz.func75,Tryz.ntmps75
   go_wp2_with (go_at_call 49;refine (rclamp_any _ _).mono ?_;rintro e w' ⟨rfl,rfl⟩)
   go_ret
   exact ⟨ret_int (by rw [HR.out]),rfl⟩
  ·have hne:(Q*256 != Gal.clamp a*Gal.clamp b)=true:=by simp [hz]
   have hr:Gal.clamp a*Gal.clamp b / 256=Q - 1:=by omega
   have HR:=Lib.hid hr
   clear hr hz hq
   go_enter Tryz.func75,Tryz.ntmps75
   go_wp2_with (go_at_call 49;refine (rclamp_any _ _).mono ?_;rintro e w' ⟨rfl,rfl⟩)
   go_ret
   exact ⟨ret_int (by rw [HR.out]),rfl⟩
 ·have hr:(Gal.clamp a*Gal.clamp b).tdiv 256=Gal.clamp a*Gal.clamp b / 256:=Int.tdiv_eq_ediv_of_nonneg (by omega)
  go_enter Tryz.func75,Tryz.ntmps75
  go_wp2_with (go_at_call 49;refine (rclamp_any _ _).mono ?_;rintro e w' ⟨rfl,rfl⟩)
  go_ret
  exact ⟨rfl,rfl⟩
end Go.Proofs.YtchngeagnlngaaaGreatDoor
end
