/- Texts joined: Step2, Part. -/
import Derived.Test.YtchngeagnlngaaaGreatDoorJ02
import Derived.Test.YtchngeagnlngaaaGreatDoorJ06
import Derived.Test.YtchngeagnlngaaaGreatDoorJ18
import Derived.Test.YtchngeagnlngaaaGreatDoorJ08
import Derived.Test.YtchngeagnlngaaaGreatDoorJ07
import Derived.Deep.WholeRow
import Derived.Deep.MidRow
import Derived.Test.YtchngeagnlngaaaGreatDoorJ05
set_option linter.unusedVariables false
set_option linter.unusedSimpArgs false
set_option linter.unusedSectionVars false
section
namespace Gal
open Go Go.RowKit
def quad {α:Type} (x0 x1 x2 x3:α):Nat→α|0=>x0|1=>x1|2=>x2|_=>x3
def pairM (v d:Grd):Nat→Mat:=quad v.W v.B d.W d.B
def pairL (l:Lay):Nat→Mat:=quad l.W l.B l.W l.B
theorem four {t:Nat} (h:t<4):t=0∨t=1∨t=2∨t=3:=by omega
theorem fits_at {l:Lay} {v d:Grd} (h0:l.fault=0) {t:Nat} (ht:t<4) (hz:∀ u,u<t→(pairM v d u).fault=0) (hn:(pairM v d t).fault≠0):fitsFault l v d=(pairM v d t).fault:=by
 unfold fitsFault
 rw [if_neg (by simp [h0])]
 rcases four ht with rfl|rfl|rfl|rfl
 ·rw [if_pos (show v.W.fault≠0 from hn)];rfl
 ·rw [if_neg (by simpa using (show v.W.fault=0 from hz 0 (by omega))),if_pos (show v.B.fault≠0 from hn)];rfl
 ·rw [if_neg (by simpa using (show v.W.fault=0 from hz 0 (by omega))),if_neg (by simpa using (show v.B.fault=0 from hz 1 (by omega))),if_pos (show d.W.fault≠0 from hn)];rfl
 ·rw [if_neg (by simpa using (show v.W.fault=0 from hz 0 (by omega))),if_neg (by simpa using (show v.B.fault=0 from hz 1 (by omega))),if_neg (by simpa using (show d.W.fault=0 from hz 2 (by omega))),if_pos (show d.B.fault≠0 from hn)];rfl
theorem fits_tail {l:Lay} {v d:Grd} (h0:l.fault=0) (hz:∀ u,u<4→(pairM v d u).fault=0):fitsFault l v d=if likeShape v.W l.W∧likeShape v.B l.B∧likeShape d.W l.W∧likeShape d.B l.B then 0 else 2:=by
 unfold fitsFault
 rw [if_neg (by simp [h0]),if_neg (by simpa using (show v.W.fault=0 from hz 0 (by omega))),if_neg (by simpa using (show v.B.fault=0 from hz 1 (by omega))),if_neg (by simpa using (show d.W.fault=0 from hz 2 (by omega))),if_neg (by simpa using (show d.B.fault=0 from hz 3 (by omega)))]
theorem fits_shape {l:Lay} {v d:Grd} (h0:l.fault=0) (hz:∀ u,u<4→(pairM v d u).fault=0) {t:Nat} (ht:t<4) (hs:¬ likeShape (pairM v d t) (pairL l t)):fitsFault l v d=2:=by
 rw [fits_tail h0 hz,if_neg]
 rintro ⟨s0,s1,s2,s3⟩
 rcases four ht with rfl|rfl|rfl|rfl
 ·exact hs s0
 ·exact hs s1
 ·exact hs s2
 ·exact hs s3
theorem fits_fine {l:Lay} {v d:Grd} (h0:l.fault=0) (hz:∀ u,u<4→(pairM v d u).fault=0) (hs:∀ u,u<4→likeShape (pairM v d u) (pairL l u)):fitsFault l v d=0:=by
 rw [fits_tail h0 hz,if_pos ⟨hs 0 (by omega),hs 1 (by omega),hs 2 (by omega),hs 3 (by omega)⟩]
theorem wpList_store_new {P:Program} {ops:Array Oper} {rest:List Oper} {op:Oper} {a:Act} {w:World} {Q:Exit→Act→World→Prop} (hgd:op.guard=none) (ty:TypeId) (x y:Operand) (ho:op.op=.store ty x y)
  (c c':Array Value) (hx:a.eval x=.pointer (some ⟨w.heap.size,0,none⟩)) (hy:a.eval y=.agg c') (hi:(P.info? ty).map (·.size)=some c'.size) (hs:c.size=c'.size) (h1:c'.all (·.oneCell')=true)
  (h:wpList P ops Q rest (a.put op.dst undef) (w.alloc (.cells c' ty))):wpList P ops Q (op :: rest) a (w.alloc (.cells c ty)):=
 wpList_plain hgd fun _ hK=>by
  unfold Oper.wp execOp
  simp only [ho,hx,hy,Instr.storeAt,Instr.sureAddr,Sem.run_bind,Sem.run_pure,Result.andThen_ok,run_storeVar_new w ty c c' hi hs h1]
  exact hK _ _ h
end Gal
namespace Go.Proofs.YtchngeagnlngaaaGreatDoor
open Go.RowKit Gal
set_option maxRecDepth 100000
set_option maxHeartbeats 2000000
theorem fits_any (l : Lay) (v d:Grd) (a0 a1 a2 a3 a4 a5:Option Addr) (n0 n1 n2 n3 n4 n5 k0 k1 k2 k3 k4 k5 b0 b1 b2 b3 b4 b5 o0 o1 o2 o3 o4 o5:Nat) (w:World)
    (x0:IntsAt w a0 n0 k0 b0 o0 l.W.cells) (x1:IntsAt w a1 n1 k1 b1 o1 l.B.cells) (x2:IntsAt w a2 n2 k2 b2 o2 v.W.cells) (x3:IntsAt w a3 n3 k3 b3 o3 v.B.cells) (x4:IntsAt w a4 n4 k4 b4 o4 d.W.cells) (x5:IntsAt w a5 n5 k5 b5 o5 d.B.cells) :
    Calls Tryz.prog 108 #[.agg #[.int .i64 l.kind,.int .i64 l.W.rows,.int .i64 l.W.cols,.slice a0 n0 k0,.int .i64 l.B.rows,.int .i64 l.B.cols,.slice a1 n1 k1],
      .agg #[.int .i64 v.W.rows,.int .i64 v.W.cols,.slice a2 n2 k2,.int .i64 v.B.rows,.int .i64 v.B.cols,.slice a3 n3 k3],
      .agg #[.int .i64 d.W.rows,.int .i64 d.W.cols,.slice a4 n4 k4,.int .i64 d.B.rows,.int .i64 d.B.cols,.slice a5 n5 k5]] w fun e w'=>
      e=.returned (errV (fitsFault l v d))∧Below w.heap.size w w':=by
  by_cases hl:l.fault=0
  · obtain ⟨arr,harr⟩:∃ arr:List Value,arr=[.int .i64 v.W.rows,.int .i64 v.W.cols,.slice a2 n2 k2,.int .i64 l.W.rows,.int .i64 l.W.cols,.slice a0 n0 k0,.int .i64 v.B.rows,.int .i64 v.B.cols,.slice a3 n3 k3,.int .i64 l.B.rows,.int .i64 l.B.cols,.slice a1 n1 k1,
        .int .i64 d.W.rows,.int .i64 d.W.cols,.slice a4 n4 k4,.int .i64 l.W.rows,.int .i64 l.W.cols,.slice a0 n0 k0,.int .i64 d.B.rows,.int .i64 d.B.cols,.slice a5 n5 k5,.int .i64 l.B.rows,.int .i64 l.B.cols,.slice a1 n1 k1]:=⟨_,rfl⟩
    have HIX:Hid (∀ t,t<4→∃ (m lm:Mat) (a:Option Addr) (n k b o:Nat) (a':Option Addr) (n' k':Nat),m=pairM v d t∧lm=pairL l t∧IntsAt w a n k b o m.cells ∧
        ∀ W,(Instr.index 217 (.agg arr.toArray) (.int .i64 (t:Int))).run Tryz.prog W=.ok (.agg #[.int .i64 m.rows,.int .i64 m.cols,.slice a n k,.int .i64 lm.rows,.int .i64 lm.cols,.slice a' n' k']) W):=by
      refine Lib.hid fun t ht=>?_
      subst harr
      rcases four ht with rfl|rfl|rfl|rfl
      · exact ⟨v.W,l.W,a2,n2,k2,b2,o2,a0,n0,k0,rfl,rfl,x2,fun W=>by kernel_rfl⟩
      · exact ⟨v.B,l.B,a3,n3,k3,b3,o3,a1,n1,k1,rfl,rfl,x3,fun W=>by kernel_rfl⟩
      · exact ⟨d.W,l.W,a4,n4,k4,b4,o4,a0,n0,k0,rfl,rfl,x4,fun W=>by kernel_rfl⟩
      · exact ⟨d.B,l.B,a5,n5,k5,b5,o5,a1,n1,k1,rfl,rfl,x5,fun W=>by kernel_rfl⟩
    have HL:=Lib.hid hl
    have HARR:=Lib.hid harr
    have HE:errV l.fault=.nilIface:=errV_nil hl
    clear hl harr
    go_enter Tryz.func108,Tryz.ntmps108
    go_wp2_with fail
    refine (layCheck_any l _ _ ⟨a0,n0,k0,b0,o0,a1,n1,k1,b1,o1,rfl,(x0.alloc _ |>.alloc _ |>.alloc _),(x1.alloc _ |>.alloc _ |>.alloc _)⟩).mono ?_
    rw [HE]
    rintro e w1 ⟨rfl,hb1⟩
    have B0:=((show Box _ w.heap.size [.int .i64 l.kind,.int .i64 l.W.rows,.int .i64 l.W.cols,.slice a0 n0 k0,.int .i64 l.B.rows,.int .i64 l.B.cols,.slice a1 n1 k1] 84 from Box.x0)).keep hb1
    have B0c:=B0.cell
    have B0f:=B0.thawed
    have B0z:=B0.lt
    have B0k:=lt_add B0z
    have B1:=((show Box _ (w.heap.size+1) [.int .i64 v.W.rows,.int .i64 v.W.cols,.slice a2 n2 k2,.int .i64 v.B.rows,.int .i64 v.B.cols,.slice a3 n3 k3] 86 from Box.x0)).keep hb1
    have B1c:=B1.cell
    have B1f:=B1.thawed
    have B1z:=B1.lt
    have B1k:=lt_add B1z
    have B2:=((show Box _ (w.heap.size+1+1) [.int .i64 d.W.rows,.int .i64 d.W.cols,.slice a4 n4 k4,.int .i64 d.B.rows,.int .i64 d.B.cols,.slice a5 n5 k5] 86 from Box.x0)).keep hb1
    have B2c:=B2.cell
    have B2f:=B2.thawed
    have B2z:=B2.lt
    have B2k:=lt_add B2z
    have HI:Hid ((Tryz.prog.info? 217).map (·.size)=some arr.toArray.size):=Lib.hid (by rw [HARR.out];kernel_rfl)
    have HALL:Hid (arr.toArray.all (·.oneCell')=true):=Lib.hid (by rw [HARR.out];simp [Value.oneCell'])
    have HS:Hid ((24:Nat)=arr.toArray.size):=Lib.hid (by rw [HARR.out];rfl)
    have hbw:Below w.heap.size w w1:=(Below.x1 hb1)
    go_wp2_with (first|refine wpList_store_new rfl 217 (.tmp 8) (.tmp 39) rfl _ arr.toArray rfl (by rw [HARR.out];rfl) HI.out HS.out HALL.out ?_|refine wpList_load_row rfl 217 (.tmp 8) rfl w1.heap.size rfl 217 arr.toArray (0,0) _ (heap_alloc_last w1 _) Tryz.underlying217 rfl HI.out ?_)
    have P0:Box (w1.alloc (.cells arr.toArray 217)) w1.heap.size arr 217:=Box.new _ _ _
    obtain ⟨w2,hw2,P8,hb2⟩:∃ w2,w1.alloc (.cells arr.toArray 217)=w2∧Box w2 w1.heap.size arr 217∧Below w.heap.size w w2:=⟨_,rfl,P0,(Below.y0 hbw)⟩
    rw [hw2]
    clear hw2 P0 B0 B0c B0f B0z B0k B1 B1c B1f B1z B1k B2 B2c B2f B2z B2k x0 x1 x2 x3 x4 x5 hbw HE
    go_loopw [41] (fun i wr=>∃ t:Nat,t≤4∧i=.int .i64 t∧Hid (∀ u,u<t→(pairM v d u).fault=0)∧Box wr w1.heap.size arr 217∧Below w.heap.size w wr) (fun i _=>4 - (intOf i).toNat)
    case atStart=>exact ⟨0,by omega,rfl,Lib.hid fun u hu=>absurd hu (Nat.not_lt_zero _),P8,hb2⟩
    case round=>
      obtain ⟨t,ht,rfl,HZ,Q8,hbr⟩:=hrel
      by_cases hlt:t<4
      · obtain ⟨m,lm,a,n,k,b,o,a',n',k',hm,hlm,xm,hix⟩:=HIX.out t hlt
        have hltI:(t:Int)<4:=by omega
        have xr:=xm.keep hbr
        have HM:=Lib.hid hm
        clear hm hlm xm P8
        by_cases hf:m.fault=0
        · have HE2:Hid (errV (matFault m.rows m.cols m.cells)=.nilIface):=Lib.hid (errV_nil hf)
          have HF:=Lib.hid hf
          clear hf
          go_wp2_with fail
          refine (matCheck_any _ _ _ _ _ _ _ m.cells _ (show IntsAt _ a n k b o m.cells from xr.k)).mono ?_
          rw [HE2.out]
          rintro e w3 ⟨rfl,hb3⟩
          have hbe:Below w.heap.size w w3:=(Below.y1 hb3 hbr)
          have Q9:Box w3 w1.heap.size arr 217:=(by first|exact Q8.k1 hb3|exact Q8.k)
          go_wp2
          go_roundw
          case rel=>exact ⟨t+1,by omega,by go_num,Lib.hid fun u hu=>by
            rcases Nat.lt_or_ge u t with g|g
            · exact HZ.out u g
            · obtain rfl:u=t:=by omega
              rw [← HM.out];exact HF.out,Q9,hbe⟩
          case measure=>simp [intOf];omega
        · have HE2:Hid (errV (matFault m.rows m.cols m.cells)=.iface 36 (.int .i64 m.fault)):=Lib.hid (errV_err hf)
          have HR:Hid (errV (fitsFault l v d)=.iface 36 (.int .i64 m.fault)):=Lib.hid (by rw [fits_at HL.out hlt HZ.out (by rw [← HM.out];exact hf),← HM.out];exact errV_err hf)
          clear hf
          go_wp2_with fail
          refine (matCheck_any _ _ _ _ _ _ _ m.cells _ (show IntsAt _ a n k b o m.cells from xr.k)).mono ?_
          rw [HE2.out]
          rintro e w3 ⟨rfl,hb3⟩
          have hbe:Below w.heap.size w w3:=(Below.y1 hb3 hbr)
          go_wp2
          go_ret
          exact ⟨by rw [HR.out];rfl,hbe⟩
      · obtain rfl:t=4:=by omega
        clear P8
        go_wp2_with (refine wpList_load_row rfl 217 (.tmp 8) rfl w1.heap.size rfl 217 arr.toArray (0,0) _ Q8 Tryz.underlying217 rfl HI.out ?_)
        go_loopw [52] (fun i wr'=>∃ t:Nat,t≤4∧i=.int .i64 t∧Hid (∀ u,u<t→likeShape (pairM v d u) (pairL l u))∧Below w.heap.size w wr') (fun i _=>4 - (intOf i).toNat)
        case atStart=>exact ⟨0,by omega,rfl,Lib.hid fun u hu=>absurd hu (Nat.not_lt_zero _),hbr⟩
        case round=>
          obtain ⟨t,ht,rfl,HK,hbs⟩:=hrel
          by_cases hlt:t<4
          · obtain ⟨m,lm,a,n,k,b,o,a',n',k',hm,hlm,xm,hix⟩:=HIX.out t hlt
            have hltI:(t:Int)<4:=by omega
            have HM:=Lib.hid hm
            have HLM:=Lib.hid hlm
            clear hm hlm xm Q8
            by_cases hr:m.rows=lm.rows
            · have q3:(m.rows != lm.rows)=false:=by simp [hr]
              by_cases hc:m.cols=lm.cols
              · have q4:(m.cols != lm.cols)=false:=by simp [hc]
                have HB:=Lib.hid hr
                have HC:=Lib.hid hc
                clear hr hc
                go_wp2
                go_roundw
                case rel=>exact ⟨t+1,by omega,by go_num,Lib.hid fun u hu=>by
                  rcases Nat.lt_or_ge u t with g|g
                  · exact HK.out u g
                  · obtain rfl:u=t:=by omega
                    rw [← HM.out,← HLM.out];exact ⟨HB.out,HC.out⟩,(Below.y0 hbs)⟩
                case measure=>simp [intOf];omega
              · have q4:(m.cols != lm.cols)=true:=by simp [hc]
                have HR:Hid (errV (fitsFault l v d)=.iface 36 (.int .i64 2)):=Lib.hid (by rw [fits_shape HL.out HZ.out hlt (by rw [← HM.out,← HLM.out];exact fun h=>hc h.2)];exact errV_err (by decide))
                clear hr hc
                go_wp2
                go_ret
                exact ⟨by rw [HR.out];rfl,(Below.y0 hbs)⟩
            · have q3:(m.rows != lm.rows)=true:=by simp [hr]
              have HR:Hid (errV (fitsFault l v d)=.iface 36 (.int .i64 2)):=Lib.hid (by rw [fits_shape HL.out HZ.out hlt (by rw [← HM.out,← HLM.out];exact fun h=>hr h.1)];exact errV_err (by decide))
              clear hr
              go_wp2
              go_ret
              exact ⟨by rw [HR.out];rfl,(Below.y0 hbs)⟩
          · obtain rfl:t=4:=by omega
            have HR:Hid (errV (fitsFault l v d)=.nilIface):=Lib.hid (by rw [fits_fine HL.out HZ.out HK.out];exact errV_nil rfl)
            go_wp2
            go_ret
            exact ⟨by rw [HR.out];rfl,(Below.y0 hbs)⟩
  · have HE:errV l.fault=.iface 36 (.int .i64 l.fault):=errV_err hl
    have HF:errV (fitsFault l v d)=errV l.fault:=by unfold fitsFault;rw [if_pos hl]
    rw [HF,HE]
    clear HF hl
    go_enter Tryz.func108,Tryz.ntmps108
    go_wp2_with fail
    refine (layCheck_any l _ _ ⟨a0,n0,k0,b0,o0,a1,n1,k1,b1,o1,rfl,x0.k,x1.k⟩).mono ?_
    rw [HE]
    rintro e w1 ⟨rfl,hb1⟩
    go_wp2_with fail
    go_ret
    exact ⟨rfl,(Below.x1 hb1)⟩
end Go.Proofs.YtchngeagnlngaaaGreatDoor
end
section
namespace Gal
open Go Go.RowKit
def PartOf {α:Type} (f:Form α) (w:World) (F:Nat→Prop) (cs:List Value) (xs:List α):Prop:=
 ∀ i x,xs[i]?=some x→∃ c,f.reads w F c x∧∀ j,j<f.size→cs[i*f.size+j]?=c[j]?
section
variable {α:Type} {f:Form α} {w w':World} {F G:Nat→Prop} {cs:List Value} {xs:List α}
theorem PartOf.nil:PartOf f w F cs []:=fun i x h=>by simp at h
theorem PartOf.kept (h:PartOf f w F cs xs) (hF:∀ b,F b→b<w.heap.size→w'.heap[b]?=w.heap[b]?):PartOf f w' F cs xs:=fun i x hx=>by
 obtain ⟨c,hr,hc⟩:=h i x hx
 exact ⟨c,f.keep hF hr,hc⟩
theorem PartOf.keep (h:PartOf f w F cs xs) (hb:Below w.heap.size w w'):PartOf f w' F cs xs:=h.kept fun b _ hl=>hb.block b hl
theorem PartOf.far {S:Nat→Prop} (h:PartOf f w F cs xs) (hf:Far S w w') (hs:∀ b,F b→¬ S b):PartOf f w' F cs xs:=h.kept fun b hb hl=>hf.block b hl (hs b hb)
theorem PartOf.set (h:PartOf f w F cs xs) {i:Nat} (hi:xs.length*f.size≤i) (v:Value):PartOf f w F (cs.set i v) xs:=fun t x hx=>by
 obtain ⟨c,hr,hc⟩:=h t x hx
 refine ⟨c,hr,fun j hj=>?_⟩
 have ht:t<xs.length:=(List.getElem?_eq_some_iff.1 hx).1
 have hm:(t+1)*f.size≤xs.length*f.size:=Nat.mul_le_mul_right _ ht
 rw [Nat.add_mul,Nat.one_mul] at hm
 rw [List.getElem?_set_ne (by omega)]
 exact hc j hj
theorem PartOf.snoc (h:PartOf f w F cs xs) {c:List Value} {x:α} (hr:f.reads w F c x) (hc:∀ j,j<f.size→cs[xs.length*f.size+j]?=c[j]?):PartOf f w F cs (xs++[x]):=fun t y hy=>by
 rcases Nat.lt_or_ge t xs.length with ht|ht
 ·rw [List.getElem?_append_left ht] at hy
  exact h t y hy
 ·rw [List.getElem?_append_right ht] at hy
  have e:t - xs.length=0:=by
   rcases Nat.eq_zero_or_pos (t - xs.length) with q|q
   ·exact q
   ·rw [List.getElem?_eq_none (by simp;omega)] at hy;cases hy
  rw [e] at hy
  simp at hy
  subst hy
  obtain rfl:t=xs.length:=by omega
  exact ⟨c,hr,hc⟩
theorem PartOf.row (h:PartOf f w F cs xs) {b n:Nat} {E:TypeId} (hb:Box w b cs E) (hn:xs.length=n) (hm:n≤maxLen) (hG:0<n→G b) (hF:∀ b,F b→b<w.heap.size→G b):RowAt f w G (some ⟨b,0,none⟩) n n b 0 xs:=by
 refine ⟨hn,Nat.le_refl _,hm,fun _=>rfl,fun _=>hb.lt,hG,fun i x hx=>?_⟩
 obtain ⟨c,hr,hc⟩:=h i x hx
 exact ⟨c,f.wide hF hr,fun j hj=>by rw [Nat.zero_add,hb.cell];exact hc j hj⟩
end
theorem sets6 {cs:List Value} {a:Nat} (h:a+6≤cs.length) (v0 v1 v2 v3 v4 v5:Value) :
  ∀ j,j<6→((((((cs.set a v0).set (a+1) v1).set (a+2) v2).set (a+3) v3).set (a+4) v4).set (a+5) v5)[a+j]?=[v0,v1,v2,v3,v4,v5][j]?:=by
 intro j hj
 rcases (by omega:j=0∨j=1∨j=2∨j=3∨j=4∨j=5) with rfl|rfl|rfl|rfl|rfl|rfl <;> simp [List.getElem?_set] <;> omega
theorem sets7 {cs:List Value} {a:Nat} (h:a+7≤cs.length) (v0 v1 v2 v3 v4 v5 v6:Value) :
  ∀ j,j<7→(((((((cs.set a v0).set (a+1) v1).set (a+2) v2).set (a+3) v3).set (a+4) v4).set (a+5) v5).set (a+6) v6)[a+j]?=[v0,v1,v2,v3,v4,v5,v6][j]?:=by
 intro j hj
 rcases (by omega:j=0∨j=1∨j=2∨j=3∨j=4∨j=5∨j=6) with rfl|rfl|rfl|rfl|rfl|rfl|rfl <;> simp [List.getElem?_set] <;> omega
theorem Box.has {w:World} {b:Nat} {cs:List Value} {t:TypeId} (h:Box w b cs t) {i:Nat} (hi:i<cs.length):∃ v,w.cell? ⟨b,i,none⟩=some v:=⟨cs[i],by rw [h.cell,List.getElem?_eq_getElem hi]⟩
theorem step_push {P:Program} {w:World} {α:Type} {ops:Array Oper} {o:Oper} {a:Act} {K:Act→World→Prop} {Q:Exit→Act→World→Prop} {E:Prop} (hgd:o.guard=none) (s x:Operand) (t:TypeId)
  (ho:o.op=.call { callee:=.builtin .append,args:=#[s,x],argTypes:=#[t,t] })
  (f:Form α) (base:Nat) (F:Nat→Prop) (e:TypeId) (i:TypeInfo) (z:Value) (bytes:Nat) (ht:P.underlying t=some (.slice e)) (hi:P.info? e=some i) (hz:i.zero=some z)
  (hsize:i.size=f.size) (hby:i.bytes=bytes) (hzs:z.cells.size=f.size) (hsz:0<f.size)
  (v:Value) (xs:List α) (hs:a.eval s=v) (hown:OwnRow f e w base F v xs)
  (b c:Nat) (cs:List Value) (te:TypeId) (y:α) (hx:a.eval x=.slice (some ⟨b,0,none⟩) 1 c) (hbox:Box w b cs te) (hr:f.reads w (fun b=>F b∧v.ownBlock≠some b) cs y)
  (hbytes:(xs.length+1)*bytes≤140737488355328) (hlen:xs.length+1≤maxLen) (hbase:base≤w.heap.size) (H:Nat) (hH:w.heap.size=H)
  (h:∀ g cap w',OwnRow f e w' base F (.slice (some ⟨g,0,none⟩) (xs.length+1) cap) (xs++[y])→w.grownBy w' v.ownBlock→(v.ownBlock=some g∨g=H)→g<w'.heap.size→K (a.put o.dst (.slice (some ⟨g,0,none⟩) (xs.length+1) cap)) w') :
  if Region.wanted o (yielded ops a.tmps)=true then Oper.wp P o a w K Q else E:=by
 have hw:Region.wanted o (yielded ops a.tmps)=true:=by simp [Region.wanted,hgd]
 rw [if_pos hw]
 exact wp_push s x t ho f base F e i z bytes ht hi hz hsize hby hzs hsz v xs hs hown b c cs te y hx hbox hr hbytes hlen hbase H hH h
theorem cell_keep' {w w':World} {a:Addr} {v:Value} (hb:Below w.heap.size w w') (h:w.cell? a=some v):w'.cell? a=some v:=(hb.cell (World.block_lt_of_cell? w _ h)).trans h
structure Cells6 (w:World) (b i:Nat) (v0 v1 v2 v3 v4 v5:Value):Prop where
 c0:w.cell? ⟨b,i,none⟩=some v0
 c1:w.cell? ⟨b,i+1,none⟩=some v1
 c2:w.cell? ⟨b,i+2,none⟩=some v2
 c3:w.cell? ⟨b,i+3,none⟩=some v3
 c4:w.cell? ⟨b,i+4,none⟩=some v4
 c5:w.cell? ⟨b,i+5,none⟩=some v5
section
variable {w w':World} {b i:Nat} {v0 v1 v2 v3 v4 v5:Value}
theorem Cells6.keep (h:Cells6 w b i v0 v1 v2 v3 v4 v5) (hb:Below w.heap.size w w'):Cells6 w' b i v0 v1 v2 v3 v4 v5:=⟨cell_keep' hb h.c0,cell_keep' hb h.c1,cell_keep' hb h.c2,cell_keep' hb h.c3,cell_keep' hb h.c4,cell_keep' hb h.c5⟩
theorem Cells6.alloc (h:Cells6 w b i v0 v1 v2 v3 v4 v5) (o:Obj):Cells6 (w.alloc o) b i v0 v1 v2 v3 v4 v5:=h.keep ((Below.refl w.heap.size w).alloc (Nat.le_refl _) o)
theorem Cells6.drewN (h:Cells6 w b i v0 v1 v2 v3 v4 v5) (n:Nat):Cells6 (w.drewN n) b i v0 v1 v2 v3 v4 v5:=⟨h.c0,h.c1,h.c2,h.c3,h.c4,h.c5⟩
theorem Cells6.drew (h:Cells6 w b i v0 v1 v2 v3 v4 v5):Cells6 w.drew b i v0 v1 v2 v3 v4 v5:=⟨h.c0,h.c1,h.c2,h.c3,h.c4,h.c5⟩
theorem Cells6.far (h:Cells6 w b i v0 v1 v2 v3 v4 v5) {a:Addr} (hne:b≠a.block) (v:Value):Cells6 (w.setCell a v) b i v0 v1 v2 v3 v4 v5:=
  ⟨(World.cell?_of_block (a:=⟨b,i,none⟩) (Below.heap_setCell w a v b hne)).trans h.c0,(World.cell?_of_block (a:=⟨b,i+1,none⟩) (Below.heap_setCell w a v b hne)).trans h.c1,(World.cell?_of_block (a:=⟨b,i+2,none⟩) (Below.heap_setCell w a v b hne)).trans h.c2,
   (World.cell?_of_block (a:=⟨b,i+3,none⟩) (Below.heap_setCell w a v b hne)).trans h.c3,(World.cell?_of_block (a:=⟨b,i+4,none⟩) (Below.heap_setCell w a v b hne)).trans h.c4,(World.cell?_of_block (a:=⟨b,i+5,none⟩) (Below.heap_setCell w a v b hne)).trans h.c5⟩
theorem Cells6.farS {S:Nat→Prop} (h:Cells6 w b i v0 v1 v2 v3 v4 v5) (hf:Far S w w') (hs:¬ S b):Cells6 w' b i v0 v1 v2 v3 v4 v5:=by
 have hl:b<w.heap.size:=World.block_lt_of_cell? w _ h.c0
 have hk:=hf.block b hl hs
 exact ⟨(World.cell?_of_block (a:=⟨b,i,none⟩) hk).trans h.c0,(World.cell?_of_block (a:=⟨b,i+1,none⟩) hk).trans h.c1,(World.cell?_of_block (a:=⟨b,i+2,none⟩) hk).trans h.c2,(World.cell?_of_block (a:=⟨b,i+3,none⟩) hk).trans h.c3,(World.cell?_of_block (a:=⟨b,i+4,none⟩) hk).trans h.c4,(World.cell?_of_block (a:=⟨b,i+5,none⟩) hk).trans h.c5⟩
variable {c d j k:Nat} {t u:TypeId} {x0 x1 x2 x3 x4 x5 y0 y1 y2 y3 y4 y5 z0 z1 z2 z3 z4 z5 z6 r0 r1:Value}
theorem cells766 (h:Box w b [z0,z1,z2,z3,z4,z5,z6] t) (m:Cells6 w c j x0 x1 x2 x3 x4 x5) (l:Cells6 w d k y0 y1 y2 y3 y4 y5) :
  w.cell? ⟨b,0,none⟩=some z0∧w.cell? ⟨b,1,none⟩=some z1∧w.cell? ⟨b,2,none⟩=some z2∧w.cell? ⟨b,3,none⟩=some z3∧w.cell? ⟨b,4,none⟩=some z4∧w.cell? ⟨b,5,none⟩=some z5∧w.cell? ⟨b,6,none⟩=some z6 ∧
  w.cell? ⟨c,j,none⟩=some x0∧w.cell? ⟨c,j+1,none⟩=some x1∧w.cell? ⟨c,j+2,none⟩=some x2∧w.cell? ⟨c,j+3,none⟩=some x3∧w.cell? ⟨c,j+4,none⟩=some x4∧w.cell? ⟨c,j+5,none⟩=some x5 ∧
  w.cell? ⟨d,k,none⟩=some y0∧w.cell? ⟨d,k+1,none⟩=some y1∧w.cell? ⟨d,k+2,none⟩=some y2∧w.cell? ⟨d,k+3,none⟩=some y3∧w.cell? ⟨d,k+4,none⟩=some y4∧w.cell? ⟨d,k+5,none⟩=some y5:=
 ⟨h.cell 0,h.cell 1,h.cell 2,h.cell 3,h.cell 4,h.cell 5,h.cell 6,m.c0,m.c1,m.c2,m.c3,m.c4,m.c5,l.c0,l.c1,l.c2,l.c3,l.c4,l.c5⟩
theorem cells_w {e:Nat} (h:Box w b [z0,z1,z2,z3,z4,z5,z6] t) (m:Cells6 w c j x0 x1 x2 x3 x4 x5) (l:Cells6 w d k y0 y1 y2 y3 y4 y5) (r:Box w e [r0,r1] u) :
  w.cell? ⟨b,1,none⟩=some z1∧w.cell? ⟨b,2,none⟩=some z2∧w.cell? ⟨b,3,none⟩=some z3∧w.cell? ⟨c,j,none⟩=some x0∧w.cell? ⟨c,j+1,none⟩=some x1∧w.cell? ⟨c,j+2,none⟩=some x2 ∧
  w.cell? ⟨d,k,none⟩=some y0∧w.cell? ⟨d,k+1,none⟩=some y1∧w.cell? ⟨d,k+2,none⟩=some y2∧w.cell? ⟨e,0,none⟩=some r0∧w.cell? ⟨e,1,none⟩=some r1:=
 ⟨h.cell 1,h.cell 2,h.cell 3,m.c0,m.c1,m.c2,l.c0,l.c1,l.c2,r.cell 0,r.cell 1⟩
theorem cells_b {e:Nat} (h:Box w b [z0,z1,z2,z3,z4,z5,z6] t) (m:Cells6 w c j x0 x1 x2 x3 x4 x5) (l:Cells6 w d k y0 y1 y2 y3 y4 y5) (r:Box w e [r0,r1] u) :
  w.cell? ⟨b,4,none⟩=some z4∧w.cell? ⟨b,5,none⟩=some z5∧w.cell? ⟨b,6,none⟩=some z6∧w.cell? ⟨c,j+3,none⟩=some x3∧w.cell? ⟨c,j+4,none⟩=some x4∧w.cell? ⟨c,j+5,none⟩=some x5 ∧
  w.cell? ⟨d,k+3,none⟩=some y3∧w.cell? ⟨d,k+4,none⟩=some y4∧w.cell? ⟨d,k+5,none⟩=some y5∧w.cell? ⟨e,0,none⟩=some r0∧w.cell? ⟨e,1,none⟩=some r1:=
 ⟨h.cell 4,h.cell 5,h.cell 6,m.c3,m.c4,m.c5,l.c3,l.c4,l.c5,r.cell 0,r.cell 1⟩
end
theorem box7_16 {w:World} {b:Nat} {t:TypeId} {v0 v1 v2 v3 v4 v5 v6:Value} (h:Box w b [v0,v1,v2,v3,v4,v5,v6] t) :
  w.cell? ⟨b,1,none⟩=some v1∧w.cell? ⟨b,2,none⟩=some v2∧w.cell? ⟨b,3,none⟩=some v3∧w.cell? ⟨b,4,none⟩=some v4∧w.cell? ⟨b,5,none⟩=some v5∧w.cell? ⟨b,6,none⟩=some v6:=⟨h.cell 1,h.cell 2,h.cell 3,h.cell 4,h.cell 5,h.cell 6⟩
end Gal
end
