/- Texts joined: Step5, Train2, Lay8. -/
import Derived.Test.YtchngeagnlngaaaGreatDoorJ25
import Derived.Test.YtchngeagnlngaaaGreatDoorJ06
import Derived.Test.YtchngeagnlngaaaGreatDoorJ18
import Derived.Test.YtchngeagnlngaaaGreatDoorJ08
import Derived.Test.YtchngeagnlngaaaGreatDoorJ19
import Derived.Test.YtchngeagnlngaaaGreatDoorJ22
import Derived.Test.YtchngeagnlngaaaGreatDoorJ05
set_option linter.unusedVariables false
set_option linter.unusedSimpArgs false
set_option linter.unusedSectionVars false
section
namespace Go.Proofs.YtchngeagnlngaaaGreatDoor
open Go.RowKit Gal Go.ChangeShapes Go.WideShapes
set_option maxRecDepth 100000
section
variable (ls:List Lay) (vs ds:List Grd) (ln kp:Int) (F G H:Nat→Prop) (a0 a1 a2:Option Addr) (n n1 n2 k0 k1 k2 b0 b1 b2 o0 o1 o2:Nat) (w:World) (h0:RowAt Form.lay w F a0 n k0 b0 o0 ls) (h1:RowAt Form.grd w G a1 n1 k1 b1 o1 vs) (h2:RowAt Form.grd w H a2 n2 k2 b2 o2 ds)
include h0 h1 h2
theorem stepDo_any :
  Calls Tryz.prog 92 #[.slice a0 n k0,.slice a1 n1 k1,.slice a2 n2 k2,.agg #[.int .i64 ln,.int .i64 kp]] w fun e w'=>∃ v d,e=.returned (.tuple #[v,d,errV (stepFault ls vs ds ln kp)])∧Below w.heap.size w w' ∧
   (stepFault ls vs ds ln kp=0→∃ a' b' a'' b'',v=.slice a' n n∧d=.slice a'' n n∧RowAt Form.lay w' (newB w.heap.size) a' n n b' 0 (stepLays ls vs ds ln kp n)∧RowAt Form.grd w' (newB w.heap.size) a'' n n b'' 0 (stepGrds ls vs ds kp n)) ∧
   (stepFault ls vs ds ln kp≠0→v=.slice none 0 0∧d=.slice none 0 0):=by
 by_cases hb:ln<0∨256<ln∨kp<0∨256<kp
 ·exact stepDo_range ls vs ds ln kp F G H a0 a1 a2 n n1 n2 k0 k1 k2 b0 b1 b2 o0 o1 o2 w h0 h1 h2 hb
 ·by_cases hs:12<n∨n1≠n∨n2≠n
  ·exact stepDo_sizes ls vs ds ln kp F G H a0 a1 a2 n n1 n2 k0 k1 k2 b0 b1 b2 o0 o1 o2 w h0 h1 h2 hb hs
  ·obtain rfl:n1=n:=by omega
   obtain rfl:n2=n1:=by omega
   exact stepDo_run ls vs ds ln kp F G H a0 a1 a2 n2 k0 k1 k2 b0 b1 b2 o0 o1 o2 w h0 h1 h2 hb (by omega)
theorem stepDo_is (ms:List Lay) (gs:List Grd) (hf:stepFault ls vs ds ln kp=0) (hm:stepLays ls vs ds ln kp ls.length=ms) (hg:stepGrds ls vs ds kp ls.length=gs) :
  Calls Tryz.prog 92 #[.slice a0 n k0,.slice a1 n1 k1,.slice a2 n2 k2,.agg #[.int .i64 ln,.int .i64 kp]] w fun e w'=>∃ a' b' a'' b'',e=.returned (.tuple #[.slice a' n n,.slice a'' n n,.nilIface])∧Below w.heap.size w w' ∧
   RowAt Form.lay w' (newB w.heap.size) a' n n b' 0 ms∧RowAt Form.grd w' (newB w.heap.size) a'' n n b'' 0 gs:=by
 refine (stepDo_any ls vs ds ln kp F G H a0 a1 a2 n n1 n2 k0 k1 k2 b0 b1 b2 o0 o1 o2 w h0 h1 h2).mono ?_
 rintro e w' ⟨v,d,rfl,hb,h,-⟩
 obtain ⟨a',b',a'',b'',rfl,rfl,r0,r1⟩:=h hf
 rw [h0.len] at hm hg
 rw [hm] at r0
 rw [hg] at r1
 exact ⟨a',b',a'',b'',by rw [hf,errV_nil rfl],hb,r0,r1⟩
end
structure Rts where
 ln:Int
 kp:Int
def RatesAt (w:World) (v:Value) (r:Rts):Prop:=v=.agg #[.int .i64 r.ln,.int .i64 r.kp]
theorem open_Rates {H:Type} {enc:TypeId × Value→H} {w:World} {base b0:Nat} {r:Reach} {spare:Nat→Bool} {held:Bool} {v:Value} {d:DataW H} {p:List MemPlace}
  (hv:Value.okWide Tryz.prog w r b0 28 v) (h:DataW.Trod enc Tryz.prog w base spare held 28 v d p):∃ r:Rts,RatesAt w v r:=by
 have hO:Opens Tryz.prog (Form.int.and Form.int) 28:=Opens.two Tryz.underlying28 opens_int opens_int (by kernel_rfl) (by kernel_rfl) (by kernel_rfl)
 obtain ⟨⟨x,y⟩,cs,rfl,c1,c2,rfl,rfl,rfl⟩:=hO.top_struct Tryz.underlying28 hv h
 exact ⟨⟨x,y⟩,rfl⟩
end Go.Proofs.YtchngeagnlngaaaGreatDoor
end
section
set_option maxRecDepth 100000
namespace Gal
open Go Go.RowKit
theorem oneFault_1 {s:Sta} {b:Bat} {p ln kp:Int} (h1:s.fault≠0):oneFault s b p ln kp=s.fault:=by unfold oneFault;rw [if_pos h1]
theorem oneFault_2 {s:Sta} {b:Bat} {p ln kp:Int} (h1:s.fault=0) (h2:splitFault b p≠0):oneFault s b p ln kp=splitFault b p:=by unfold oneFault;rw [if_neg (by simp [h1]),if_pos h2]
theorem oneFault_3 {s:Sta} {b:Bat} {p ln kp:Int} (h1:s.fault=0) (h2:splitFault b p=0) (h3:netWideFault s.N b.I.cols≠0):oneFault s b p ln kp=netWideFault s.N b.I.cols:=by unfold oneFault;rw [if_neg (by simp [h1]),if_neg (by simp [h2]),if_pos h3]
theorem oneFault_4 {s:Sta} {b:Bat} {p ln kp:Int} (h1:s.fault=0) (h2:splitFault b p=0) (h3:netWideFault s.N b.I.cols=0):oneFault s b p ln kp=if netW s.N b.I.cols s.N.length≠b.W.cols then 2 else if 12<nx (sizesIn b p) 0 then 1 else if ln<0∨256<ln∨kp<0∨256<kp then 1 else 0:=by unfold oneFault;rw [if_neg (by simp [h1]),if_neg (by simp [h2]),if_neg (by simp [h3])]
end Gal
namespace Go.Proofs.YtchngeagnlngaaaGreatDoor
open Go.RowKit Gal
set_option maxHeartbeats 4000000
def PartsEnd (w:World) (s:Sta) (d:Bat) (p ln kp:Int) (e:Ending) (w':World):Prop:=
 ∃ u,e=.returned (.tuple #[u,errV (oneFault s d p ln kp)])∧Below w.heap.size w w' ∧
  (oneFault s d p ln kp=0→∃ a k b,u=.slice a p.toNat k∧RowAt Form.bat w' (newB w.heap.size) a p.toNat k b 0 (partsTo d (sizesIn d p) p.toNat))∧(oneFault s d p ln kp≠0→u=.slice none 0 0)
theorem trainParts_any (s:Sta) (d:Bat) (p ln kp:Int) (F G:Nat→Prop) (a0 a1:Option Addr) (n n1 k0 k1 b0 b1 o0 o1:Nat) (vb:Value) (w:World) (h0:RowAt Form.lay w F a0 n k0 b0 o0 s.N) (h1:RowAt Form.grd w G a1 n1 k1 b1 o1 s.V) (hd:BatAt w vb d) :
  Calls Tryz.prog 56 #[.agg #[.slice a0 n k0,.slice a1 n1 k1,.int .i64 s.steps],vb,.int .i64 p,.agg #[.int .i64 ln,.int .i64 kp]] w (PartsEnd w s d p ln kp):=by
 obtain ⟨a2,n2,k2,b2,o2,a3,n3,k3,b3,o3,rfl,x0,x1⟩:=hd
 have HL0:=Lib.hid h0.len
 by_cases hs:s.fault=0
 ·have HS := Lib.hid hs
  have HES:Hid (errV s.fault=.nilIface):=Lib.hid (errV_nil hs)
  clear hs
  go_enter Tryz.func56,Tryz.ntmps56
  go_wp2_with fail
  refine (trainCheck_any s F G _ _ _ _ _ _ _ _ _ _ _ (h0.alloc _ |>.alloc _ |>.alloc _) (h1.alloc _ |>.alloc _ |>.alloc _)).mono ?_
  rw [HES.out]
  rintro e w1 ⟨rfl,hb1⟩
  have B4:=((show Box _ w.heap.size [.slice a0 n k0,.slice a1 n1 k1,.int .i64 s.steps] 30 from Box.x0)).keep hb1
  have B4c:=B4.cell
  have B4f:=B4.thawed
  have B4z:=B4.lt
  have B4k:=lt_add B4z
  have B5:=((show Box _ (w.heap.size+1) [.int .i64 d.I.rows,.int .i64 d.I.cols,.slice a2 n2 k2,.int .i64 d.W.rows,.int .i64 d.W.cols,.slice a3 n3 k3] 43 from Box.x0)).keep hb1
  have B5c:=B5.cell
  have B5f:=B5.thawed
  have B5z:=B5.lt
  have B5k:=lt_add B5z
  have B7:=((show Box _ (w.heap.size+1+1) [.int .i64 ln,.int .i64 kp] 28 from Box.x0)).keep hb1
  have B7c:=B7.cell
  have B7f:=B7.thawed
  have B7z:=B7.lt
  have B7k:=lt_add B7z
  have hkw1:Below w.heap.size w w1:=(Below.x1 hb1)
  replace h0:=h0.keep hkw1
  replace x0:=x0.keep hkw1
  replace x1:=x1.keep hkw1
  have hsw1:=hkw1.size
  by_cases hf2:splitFault d p=0
  ·have HF2:=Lib.hid hf2
   have HE2:Hid (errV (splitFault d p)=.nilIface):=Lib.hid (errV_nil hf2)
   clear hf2
   go_wp2_with fail
   refine (batchSplit_any d p _ _ ⟨a2,n2,k2,b2,o2,a3,n3,k3,b3,o3,rfl,x0,x1⟩).mono ?_
   rw [HE2.out]
   rintro e w2 ⟨u2,rfl,hb2,hu2,_⟩
   obtain ⟨aL,kL,bL,rfl,rL⟩:=hu2 HF2.out
   have hkw2:Below w1.heap.size w1 w2:=(Below.x1 hb2)
   replace B4:=B4.keep hkw2
   replace B4c:=B4.cell
   replace B4f:=B4.thawed
   replace B4z:=B4.lt
   replace B4k:=lt_add B4z
   replace B5:=B5.keep hkw2
   replace B5c:=B5.cell
   replace B5f:=B5.thawed
   replace B5z:=B5.lt
   replace B5k:=lt_add B5z
   replace B7:=B7.keep hkw2
   replace B7c:=B7.cell
   replace B7f:=B7.thawed
   replace B7z:=B7.lt
   replace B7k:=lt_add B7z
   replace h0:=h0.keep hkw2
   have hsw2:=hkw2.size
   have hbw2:Below w.heap.size w w2:=(Below.x2 hb2 hb1)
   have rL9:RowAt Form.bat w2 (newB w.heap.size) aL p.toNat kL bL 0 (partsTo d (sizesIn d p) p.toNat):=rL.wide (fun b hb _=>Nat.le_trans (by have:=hkw1.size;exact this) hb)
   clear hu2 rL x0 x1 hb1 hb2
   have hdc:-9223372036854775808≤d.I.cols∧d.I.cols≤9223372036854775807:=by
    obtain ⟨R,K,xs,e,_,hK,_⟩:=mat_form (Bat.fault_ok (splitFault_ok HF2.out).1).1
    rw [e]
    dsimp only
    omega
   by_cases hf3:netWideFault s.N d.I.cols=0
   ·have HF3:=Lib.hid hf3
    have HE3:Hid (errV (netWideFault s.N d.I.cols)=.nilIface):=Lib.hid (errV_nil hf3)
    have HK3:Hid (okOr (netWideFault s.N d.I.cols) (netW s.N d.I.cols n)=netW s.N d.I.cols n):=Lib.hid (okOr_ok hf3)
    have HF4:=Lib.hid (oneFault_4 (ln:=ln) (kp:=kp) HS.out HF2.out hf3)
    clear hf3
    go_wp2_with fail
    refine (netCheck_any s.N F _ _ _ _ _ d.I.cols _ h0 hdc).mono ?_
    rw [HE3.out,HK3.out]
    rintro e w3 ⟨rfl,hb3⟩
    have hkw3:Below w2.heap.size w2 w3:=(Below.x1 hb3)
    replace B4:=B4.keep hkw3
    replace B4c:=B4.cell
    replace B4f:=B4.thawed
    replace B4z:=B4.lt
    replace B4k:=lt_add B4z
    replace B5:=B5.keep hkw3
    replace B5c:=B5.cell
    replace B5f:=B5.thawed
    replace B5z:=B5.lt
    replace B5k:=lt_add B5z
    replace B7:=B7.keep hkw3
    replace B7c:=B7.cell
    replace B7f:=B7.thawed
    replace B7z:=B7.lt
    replace B7k:=lt_add B7z
    replace rL9:=rL9.keep hkw3
    have hsw3:=hkw3.size
    have hbe:Below w.heap.size w w3:=(Below.y1 hb3 hbw2)
    obtain ⟨W,hW⟩:∃ W,netW s.N d.I.cols n=W:=⟨_,rfl⟩
    have HW:Hid (netW s.N d.I.cols s.N.length=W):=Lib.hid (by rw [HL0.out];exact hW)
    rw [hW]
    clear hW hb3 hbw2 h0
    by_cases q1:W=d.W.cols
    ·have e1:(W != d.W.cols)=false:=by rw [bne_eq_false_iff_eq];exact q1
     have HQ1:Hid (netW s.N d.I.cols s.N.length=d.W.cols):=Lib.hid (by rw [HW.out];exact q1)
     have hp:=splitFault_ok HF2.out
     obtain ⟨a9,n9,k9,b9,o9,a8,n8,k8,b8,o8,c0,_⟩:=bat_cells (i:=0) (d:=partOf d (sizesIn d p) 0) rL9 (by
      unfold partsTo
      rw [List.getElem?_map,List.getElem?_range (by omega)]
      rfl)
     have hpw:=(part_whole (k:=0) (Bat.fault_ok hp.1).1 (sizes_sum HF2.out)).2.1
     have hc0:(partOf d (sizesIn d p) 0).I.rows=(nx (sizesIn d p) 0:Int):=hpw
     obtain ⟨Z,hZ⟩:∃ Z,nx (sizesIn d p) 0=Z:=⟨_,rfl⟩
     rw [hZ] at hc0
     rw [hc0] at c0
     have hp0:0<p.toNat:=by omega
     obtain rfl:=rL9.ptr hp0
     have pI:(0:Int)<(p.toNat:Int):=by omega
     have HZ:=Lib.hid hZ
     have HRL:=Lib.hid rL9
     clear hp hpw hc0 hZ q1 rL9
     by_cases q2:12<Z
     ·have e2:((Z:Int) > 12)=True:=eq_true (by omega)
      have HNZ:Hid ((1:Int)≠0):=Lib.hid (by decide)
      have HR:Hid (oneFault s d p ln kp=1):=Lib.hid (by rw [HF4.out,if_neg (by simp [HQ1.out]),if_pos (by rw [HZ.out];exact q2)])
      go_wp2
      refine bodyPost_ret (v:=.tuple #[.slice none 0 0,.iface 36 (.int .i64 (1))]) (by simp [results,Tryz.results56,go_sem]) rfl ⟨_,by rw [HR.out,errV_err HNZ.out],hbe,fun h=>absurd (HR.out.symm.trans h) HNZ.out,fun _=>rfl⟩
     ·have e2:((Z:Int) > 12)=False:=eq_false (by omega)
      have HQ2:Hid (¬ 12<nx (sizesIn d p) 0):=Lib.hid (by rw [HZ.out];exact q2)
      clear q2
      by_cases r1:ln<0
      ·have i1:(ln<0)=True:=eq_true r1
       have HQ3:Hid (ln<0∨256<ln∨kp<0∨256<kp):=Lib.hid (Or.inl r1)
       have HNZ:Hid ((1:Int)≠0):=Lib.hid (by decide)
       have HR:Hid (oneFault s d p ln kp=1):=Lib.hid (by rw [HF4.out,if_neg (by simp [HQ1.out]),if_neg HQ2.out,if_pos HQ3.out])
       go_wp2
       refine bodyPost_ret (v:=.tuple #[.slice none 0 0,.iface 36 (.int .i64 (1))]) (by simp [results,Tryz.results56,go_sem]) rfl ⟨_,by rw [HR.out,errV_err HNZ.out],hbe,fun h=>absurd (HR.out.symm.trans h) HNZ.out,fun _=>rfl⟩
      ·have i1:(ln<0)=False:=eq_false r1
       by_cases r2:256<ln
       ·have i2:(ln > 256)=True:=eq_true r2
        have HQ3:Hid (ln<0∨256<ln∨kp<0∨256<kp):=Lib.hid (Or.inr (Or.inl r2))
        have HNZ:Hid ((1:Int)≠0):=Lib.hid (by decide)
        have HR:Hid (oneFault s d p ln kp=1):=Lib.hid (by rw [HF4.out,if_neg (by simp [HQ1.out]),if_neg HQ2.out,if_pos HQ3.out])
        go_wp2
        refine bodyPost_ret (v:=.tuple #[.slice none 0 0,.iface 36 (.int .i64 (1))]) (by simp [results,Tryz.results56,go_sem]) rfl ⟨_,by rw [HR.out,errV_err HNZ.out],hbe,fun h=>absurd (HR.out.symm.trans h) HNZ.out,fun _=>rfl⟩
       ·have i2:(ln > 256)=False:=eq_false r2
        by_cases r3:kp<0
        ·have i3:(kp<0)=True:=eq_true r3
         have HQ3:Hid (ln<0∨256<ln∨kp<0∨256<kp):=Lib.hid (Or.inr (Or.inr (Or.inl r3)))
         have HNZ:Hid ((1:Int)≠0):=Lib.hid (by decide)
         have HR:Hid (oneFault s d p ln kp=1):=Lib.hid (by rw [HF4.out,if_neg (by simp [HQ1.out]),if_neg HQ2.out,if_pos HQ3.out])
         go_wp2
         refine bodyPost_ret (v:=.tuple #[.slice none 0 0,.iface 36 (.int .i64 (1))]) (by simp [results,Tryz.results56,go_sem]) rfl ⟨_,by rw [HR.out,errV_err HNZ.out],hbe,fun h=>absurd (HR.out.symm.trans h) HNZ.out,fun _=>rfl⟩
        ·have i3:(kp<0)=False:=eq_false r3
         by_cases r4:256<kp
         ·have i4:(kp > 256)=True:=eq_true r4
          have HQ3:Hid (ln<0∨256<ln∨kp<0∨256<kp):=Lib.hid (Or.inr (Or.inr (Or.inr r4)))
          have HNZ:Hid ((1:Int)≠0):=Lib.hid (by decide)
          have HR:Hid (oneFault s d p ln kp=1):=Lib.hid (by rw [HF4.out,if_neg (by simp [HQ1.out]),if_neg HQ2.out,if_pos HQ3.out])
          go_wp2
          refine bodyPost_ret (v:=.tuple #[.slice none 0 0,.iface 36 (.int .i64 (1))]) (by simp [results,Tryz.results56,go_sem]) rfl ⟨_,by rw [HR.out,errV_err HNZ.out],hbe,fun h=>absurd (HR.out.symm.trans h) HNZ.out,fun _=>rfl⟩
         ·have i4:(kp > 256)=False:=eq_false r4
          have HR:Hid (oneFault s d p ln kp=0):=Lib.hid (by rw [HF4.out,if_neg (by simp [HQ1.out]),if_neg HQ2.out,if_neg (by omega)])
          go_wp2
          refine bodyPost_ret (v:=.tuple #[.slice (some ⟨bL,0,none⟩) p.toNat kL,.nilIface]) (by simp [results,Tryz.results56,go_sem]) rfl ⟨_,by rw [HR.out,errV_nil rfl],hbe,fun _=>⟨_,kL,bL,rfl,HRL.out⟩,fun h=>absurd HR.out h⟩
    ·have e1:(W != d.W.cols)=true:=by rw [bne_iff_ne];exact q1
     have HNZ:Hid ((2:Int)≠0):=Lib.hid (by decide)
     have HQ1:Hid (netW s.N d.I.cols s.N.length≠d.W.cols):=Lib.hid (by rw [HW.out];exact q1)
     clear q1 rL9
     have HR:Hid (oneFault s d p ln kp=2):=Lib.hid (by rw [HF4.out,if_pos HQ1.out])
     go_wp2
     refine bodyPost_ret (v:=.tuple #[.slice none 0 0,.iface 36 (.int .i64 (2))]) (by simp [results,Tryz.results56,go_sem]) rfl ⟨_,by rw [HR.out,errV_err HNZ.out],hbe,fun h=>absurd (HR.out.symm.trans h) HNZ.out,fun _=>rfl⟩
   ·have HNZ:=Lib.hid hf3
    have HE3:Hid (errV (netWideFault s.N d.I.cols)=.iface 36 (.int .i64 (netWideFault s.N d.I.cols))):=Lib.hid (errV_err hf3)
    have HK3:Hid (okOr (netWideFault s.N d.I.cols) (netW s.N d.I.cols n)=0):=Lib.hid (okOr_bad hf3)
    clear hf3
    go_wp2_with fail
    refine (netCheck_any s.N F _ _ _ _ _ d.I.cols _ h0 hdc).mono ?_
    rw [HE3.out,HK3.out]
    rintro e w3 ⟨rfl,hb3⟩
    have hbe:Below w.heap.size w w3:=(Below.y1 hb3 hbw2)
    have HR:Hid (oneFault s d p ln kp=netWideFault s.N d.I.cols):=Lib.hid (oneFault_3 HS.out HF2.out HNZ.out)
    go_wp2
    refine bodyPost_ret (v:=.tuple #[.slice none 0 0,.iface 36 (.int .i64 (netWideFault s.N d.I.cols))]) (by simp [results,Tryz.results56,go_sem]) rfl ⟨_,by rw [HR.out,errV_err HNZ.out],hbe,fun h=>absurd (HR.out.symm.trans h) HNZ.out,fun _=>rfl⟩
  ·have HNZ:=Lib.hid hf2
   have HE2:Hid (errV (splitFault d p)=.iface 36 (.int .i64 (splitFault d p))):=Lib.hid (errV_err hf2)
   clear hf2
   go_wp2_with fail
   refine (batchSplit_any d p _ _ ⟨a2,n2,k2,b2,o2,a3,n3,k3,b3,o3,rfl,x0,x1⟩).mono ?_
   rw [HE2.out]
   rintro e w2 ⟨u2,rfl,hb2,_,_⟩
   have hbe:Below w.heap.size w w2:=(Below.x2 hb2 hb1)
   have HR:Hid (oneFault s d p ln kp=splitFault d p):=Lib.hid (oneFault_2 HS.out HNZ.out)
   go_wp2
   refine bodyPost_ret (v:=.tuple #[.slice none 0 0,.iface 36 (.int .i64 (splitFault d p))]) (by simp [results,Tryz.results56,go_sem]) rfl ⟨_,by rw [HR.out,errV_err HNZ.out],hbe,fun h=>absurd (HR.out.symm.trans h) HNZ.out,fun _=>rfl⟩
 ·have HNZ:=Lib.hid hs
  have HES:Hid (errV s.fault=.iface 36 (.int .i64 s.fault)):=Lib.hid (errV_err hs)
  clear hs
  go_enter Tryz.func56,Tryz.ntmps56
  go_wp2_with fail
  refine (trainCheck_any s F G _ _ _ _ _ _ _ _ _ _ _ (h0.alloc _ |>.alloc _ |>.alloc _) (h1.alloc _ |>.alloc _ |>.alloc _)).mono ?_
  rw [HES.out]
  rintro e w1 ⟨rfl,hb1⟩
  have hbe:Below w.heap.size w w1:=(Below.x1 hb1)
  have HR:Hid (oneFault s d p ln kp=s.fault):=Lib.hid (oneFault_1 HNZ.out)
  go_wp2
  refine bodyPost_ret (v:=.tuple #[.slice none 0 0,.iface 36 (.int .i64 (s.fault))]) (by simp [results,Tryz.results56,go_sem]) rfl ⟨_,by rw [HR.out,errV_err HNZ.out],hbe,fun h=>absurd (HR.out.symm.trans h) HNZ.out,fun _=>rfl⟩
def StaNew (base:Nat) (w:World) (v:Value) (s:Sta):Prop:=∃ a0 n k0 b0 a1 n1 k1 b1,v=.agg #[.slice a0 n k0,.slice a1 n1 k1,.int .i64 s.steps]∧RowAt Form.lay w (newB base) a0 n k0 b0 0 s.N∧RowAt Form.grd w (newB base) a1 n1 k1 b1 0 s.V
theorem trainStep_ok (s:Sta) (by_:List Grd) (ln kp:Int) (F G H:Nat→Prop) (a0 a1 a2:Option Addr) (n n1 n2 k0 k1 k2 b0 b1 b2 o0 o1 o2:Nat) (w:World) (h0:RowAt Form.lay w F a0 n k0 b0 o0 s.N) (h1:RowAt Form.grd w G a1 n1 k1 b1 o1 s.V) (h2:RowAt Form.grd w H a2 n2 k2 b2 o2 by_)
  (ms:List Lay) (gs:List Grd) (hf:stepFault s.N s.V by_ ln kp=0) (hm:stepLays s.N s.V by_ ln kp s.N.length=ms) (hg:stepGrds s.N s.V by_ kp s.N.length=gs) (hst:0≤s.steps∧s.steps≤1000000000) :
  Calls Tryz.prog 64 #[.agg #[.slice a0 n k0,.slice a1 n1 k1,.int .i64 s.steps],.slice a2 n2 k2,.agg #[.int .i64 ln,.int .i64 kp]] w fun e w'=>∃ v,e=.returned v∧Below w.heap.size w w'∧StaNew w.heap.size w' v ⟨ms,gs,s.steps+1⟩:=by
 obtain ⟨st0,st1⟩:=hst
 obtain ⟨wz,hwz⟩:∃ wz,((w.alloc (.cells #[.slice a0 n k0,.slice a1 n1 k1,.int .i64 s.steps] 30)).alloc (.cells #[.int .i64 ln,.int .i64 kp] 28)).alloc (.cells #[.slice none 0 0,.slice none 0 0,.int .i64 0] 30)=wz:=⟨_,rfl⟩
 have hbz:Below w.heap.size w wz:=by rw [← hwz];exact Below.x0
 have Z4:Box wz w.heap.size [.slice a0 n k0,.slice a1 n1 k1,.int .i64 s.steps] 30:=by rw [← hwz];exact Box.x0
 have Z6:Box wz (w.heap.size+1+1) [.slice none 0 0,.slice none 0 0,.int .i64 0] 30:=by rw [← hwz];exact Box.x0
 have HWZ:=Lib.hid hwz
 clear hwz
 go_enter Tryz.func64,Tryz.ntmps64
 go_wp2_with fail
 rw [HWZ.out]
 refine (stepDo_is s.N s.V by_ ln kp F G H a0 a1 a2 n n1 n2 k0 k1 k2 b0 b1 b2 o0 o1 o2 wz (h0.keep hbz) (h1.keep hbz) (h2.keep hbz) ms gs hf hm hg).mono ?_
 rintro e w1 ⟨a',b',a'',b'',rfl,hb1,r0,r1⟩
 have Y4:=Z4.keep hb1
 have Y6:=Z6.keep hb1
 have c2:=Y4.cell 2
 have f0:=Y6.thawed 0
 have f1:=Y6.thawed 1
 have f2:=Y6.thawed 2
 have d0:=Y6.cell 0
 have d1:=Y6.cell 1
 have d2:=Y6.cell 2
 have bz:=((Y6.set 0 (.slice a' n n)).set 1 (.slice a'' n n)).set 2 (.int .i64 (s.steps+1))
 have z0:=bz.cell 0
 have z1:=bz.cell 1
 have z2:=bz.cell 2
 have hbw:Below w.heap.size w (((w1.setCell ⟨w.heap.size+1+1,0,none⟩ (.slice a' n n)).setCell ⟨w.heap.size+1+1,1,none⟩ (.slice a'' n n)).setCell ⟨w.heap.size+1+1,2,none⟩ (.int .i64 (s.steps+1))):=(((hbz.trans (hb1.mono hbz.size)).setCell (by dsimp only;omega) _).setCell (by dsimp only;omega) _).setCell (by dsimp only;omega) _
 have hf9:Far (fun c=>c=w.heap.size+1+1) w1 (((w1.setCell ⟨w.heap.size+1+1,0,none⟩ (.slice a' n n)).setCell ⟨w.heap.size+1+1,1,none⟩ (.slice a'' n n)).setCell ⟨w.heap.size+1+1,2,none⟩ (.int .i64 (s.steps+1))):=(((Far.refl (fun c=>c=w.heap.size+1+1) w1).st (fun _=>rfl) _).st (fun _=>rfl) _).st (fun _=>rfl) _
 have hZ:=Z6.lt
 have q0:=r0.farS hf9 (fun c hc _ hh=>by have h3:wz.heap.size≤c:=hc;have h4:c=w.heap.size+1+1:=hh;omega)
 have q1:=r1.farS hf9 (fun c hc _ hh=>by have h3:wz.heap.size≤c:=hc;have h4:c=w.heap.size+1+1:=hh;omega)
 have hss:=hbz.size
 have HP:=Lib.hid (And.intro hbw (And.intro (q0.wide (G:=newB w.heap.size) (fun c hc _=>Nat.le_trans hss hc)) (q1.wide (G:=newB w.heap.size) (fun c hc _=>Nat.le_trans hss hc))))
 clear hbw hf9 r0 r1 q0 q1 bz Y4 Y6 Z4 Z6 h0 h1 h2
 go_wp2
 refine bodyPost_ret (v:=.agg #[.slice a' n n,.slice a'' n n,.int .i64 (s.steps+1)]) (by simp [results,Tryz.results64,go_sem,z0,z1,z2]) rfl ⟨_,rfl,HP.out.1,a',n,n,b',a'',n,n,b'',rfl,HP.out.2.1,HP.out.2.2⟩
end Go.Proofs.YtchngeagnlngaaaGreatDoor
end
section
namespace Go.Proofs.YtchngeagnlngaaaGreatDoor
open Go.RowKit Gal
set_option maxRecDepth 100000
set_option maxHeartbeats 2000000
theorem back_3 (W B x g:Mat) (a0 ag aw ab:Option Addr) (n0 k0 b0 o0 ng kg bg og nw kw bw ow nb kb:Nat) (w:World) (x0:IntsAt w a0 n0 k0 b0 o0 x.cells) (xg:IntsAt w ag ng kg bg og g.cells) (xw:IntsAt w aw nw kw bw ow W.cells) (hg:Backs ⟨3,W,B⟩ x g) :
  Calls Tryz.prog 163 #[.agg #[],.agg #[.int .i64 3,.int .i64 W.rows,.int .i64 W.cols,.slice aw nw kw,.int .i64 B.rows,.int .i64 B.cols,.slice ab nb kb],.agg #[.int .i64 x.rows,.int .i64 x.cols,.slice a0 n0 k0],.agg #[.int .i64 g.rows,.int .i64 g.cols,.slice ag ng kg]] w fun e w'=>
   ∃ v d,e=.returned (.tuple #[v,d])∧MatNew w.heap.size w' v (Lay.back ⟨3,W,B⟩ x g)∧GrdNew w.heap.size w' d (Lay.grad ⟨3,W,B⟩ x g)∧Below w.heap.size w w':=by
 have hcol:g.cols=x.cols:=by rw [hg.cols];exact if_neg (by simp)
 obtain ⟨hgl,hx288⟩:=same_len hg.goes.mat hg.mat hg.rows hcol
 have hn0:=x0.len
 have hng:=xg.len
 have hgo:Goes ⟨3,W,B⟩ g:=⟨hg.goes.lay,hg.mat,takes_3 W B g.cols⟩
 have hbk:Lay.back ⟨3,W,B⟩ x g=Lay.go ⟨3,W,B⟩ g:=by simp [Lay.back,Lay.go]
 have hgr:Lay.grad ⟨3,W,B⟩ x g=⟨⟨1,1,[dotTo x.cells g.cells n0]⟩,Mat.none⟩:=by simp [Lay.grad,hn0]
 rw [hbk,hgr]
 have hnn:ng=n0:=by omega
 have hn288:n0≤288:=by omega
 have HGO:=Lib.hid hgo
 clear hbk hgr hcol hgl hx288 hn0 hng hg hgo
 subst hnn
 go_enter Tryz.func163,Tryz.ntmps163
 go_wp2
 go_loopw [10,15] (fun s i wr=>∃ k:Nat,k≤ng∧i=.int .i64 k∧s=.int .i64 (dotTo x.cells g.cells k)∧Below w.heap.size w wr ∧
   Box wr (w.heap.size+1) [.int .i64 3,.int .i64 W.rows,.int .i64 W.cols,.slice aw nw kw,.int .i64 B.rows,.int .i64 B.cols,.slice ab nb kb] 84 ∧
   Box wr (w.heap.size+1+1) [.int .i64 x.rows,.int .i64 x.cols,.slice a0 ng k0] 41∧Box wr (w.heap.size+1+1+1) [.int .i64 g.rows,.int .i64 g.cols,.slice ag ng kg] 41 ∧
   Box wr (w.heap.size+1+1+1+1) [.int .i64 0,.int .i64 0,.slice none 0 0] 41∧Box wr (w.heap.size+1+1+1+1+1) [.int .i64 0,.int .i64 0,.slice none 0 0,.int .i64 0,.int .i64 0,.slice none 0 0] 86) (fun _ i _=>ng - (intOf i).toNat)
 case atStart=>exact ⟨0,Nat.zero_le _,rfl,rfl,Below.x0,Box.x0,Box.x0,Box.x0,Box.x0,Box.x0⟩
 case round=>
  obtain ⟨k,hk,rfl,rfl,hbr,B1,B2,B3,B4,B5⟩:=hrel
  have B1c:=B1.cell
  have B2c:=B2.cell
  have B3c:=B3.cell
  have hz:=B5.lt
  by_cases hlt:k<ng
  ·obtain rfl:=x0.ptr (by omega)
   obtain rfl:=xg.ptr (by omega)
   have ca:=(x0.keep hbr).cell _ hlt
   have cb:=(xg.keep hbr).cell _ hlt
   go_wp2
   go_quiet ((first|(go_at_call 88;first|exact quiet0 (mul_any _ _)|exact quiet1 (mul_any _ _))|(go_at_call 63;first|exact quiet0 (add_any _ _)|exact quiet1 (add_any _ _))))
   go_wp2
   go_roundw
   case rel=>exact ⟨k+1,by omega,by go_num,rfl,(Below.y0 hbr),B1.drewN _,B2.drewN _,B3.drewN _,B4.drewN _,B5.drewN _⟩
   case measure=>simp [intOf];omega
  ·obtain rfl:k=ng:=by omega
   have xg':=xg.keep hbr
   have xw':=xw.keep hbr
   go_wp2_with fail
   refine (run_3 W B g _ _ _ _ _ _ _ _ _ _ _ _ _ _ xg' xw' HGO.out).mono ?_
   rintro e w1 ⟨v1,rfl,⟨a1,n1,k1,b1,o1,rfl,hn1,x1⟩,hb1⟩
   have C4:=B4.keep hb1
   have C5:=B5.keep hb1
   have C4c:=(C4.alloc (.cells #[.int .i64 (dotTo x.cells g.cells k)] 3)).cell
   have C5c:=(C5.alloc (.cells #[.int .i64 (dotTo x.cells g.cells k)] 3)).cell
   have C4f:=(C4.alloc (.cells #[.int .i64 (dotTo x.cells g.cells k)] 3)).thawed
   have C5f:=(C5.alloc (.cells #[.int .i64 (dotTo x.cells g.cells k)] 3)).thawed
   have hs1:=hb1.size
   have xs1:IntsAt (w1.alloc (.cells #[.int .i64 (dotTo x.cells g.cells k)] 3)) (some ⟨w1.heap.size,0,none⟩) 1 1 w1.heap.size 0 [dotTo x.cells g.cells k]:=ints_box (xs:=[dotTo x.cells g.cells k]) (Box.new w1 _ _) (by unfold maxLen;simp)
   have XS1:=Lib.hid xs1
   clear xs1
   go_wp2
   refine bodyPost_ret (v:=.tuple #[.agg #[.int .i64 (Lay.go ⟨3,W,B⟩ g).rows,.int .i64 (Lay.go ⟨3,W,B⟩ g).cols,.slice a1 n1 k1],.agg #[.int .i64 1,.int .i64 1,.slice (some ⟨w1.heap.size,0,none⟩) 1 1,.int .i64 0,.int .i64 0,.slice none 0 0]]) (by simp [results,Tryz.results163,go_sem,C4c,C5c]) rfl ⟨_,_,rfl,MatNew.mk (b:=b1) (off:=o1) (fun h=>by have:=hn1 h;omega) ?_,⟨_,_,_,w1.heap.size,0,_,_,_,0,0,rfl,fun _=>by omega,?_,fun h=>absurd h (Nat.lt_irrefl _),noInts _⟩,(Below.y1 hb1 hbr)⟩
   ·exact x1.k
   ·exact (by repeat (first|(with_reducible first|exact XS1.out|refine IntsAt.alloc ?_ _|refine IntsAt.drewN ?_ _|refine IntsAt.drew ?_|(refine IntsAt.set ?_ ?_ _;rotate_left 1;(intro h0;first|(dsimp only;omega)|omega|(simp;omega)|simp)))|exact XS1.out))
theorem back_4 (W B x g:Mat) (a0 ag aw ab:Option Addr) (n0 k0 ng kg bg og nw kw nb kb:Nat) (w:World) (xg:IntsAt w ag ng kg bg og g.cells) (hg:Backs ⟨4,W,B⟩ x g) :
  Calls Tryz.prog 167 #[.agg #[],.agg #[.int .i64 4,.int .i64 W.rows,.int .i64 W.cols,.slice aw nw kw,.int .i64 B.rows,.int .i64 B.cols,.slice ab nb kb],.agg #[.int .i64 x.rows,.int .i64 x.cols,.slice a0 n0 k0],.agg #[.int .i64 g.rows,.int .i64 g.cols,.slice ag ng kg]] w fun e w'=>
   ∃ v d,e=.returned (.tuple #[v,d])∧MatNew w.heap.size w' v (Lay.back ⟨4,W,B⟩ x g)∧GrdNew w.heap.size w' d (Lay.grad ⟨4,W,B⟩ x g)∧Below w.heap.size w w':=by
 have hng:=xg.len
 have hbk:Lay.back ⟨4,W,B⟩ x g=⟨g.rows,g.cols,upto (ix g.cells) ng⟩:=by simp [Lay.back,hng]
 have hgr:Lay.grad ⟨4,W,B⟩ x g=⟨Mat.none,matSums g⟩:=by simp [Lay.grad]
 have hn288:ng≤288:=by obtain ⟨_,_,h⟩:=fault_bd hg.mat;omega
 have HF:=Lib.hid hg.mat
 rw [hbk,hgr]
 clear hbk hgr hng hg
 go_enter Tryz.func167,Tryz.ntmps167
 go_wp2_with fail
 refine (matSums_any g _ _ (MatAt.mk (xg.alloc _ |>.alloc _ |>.alloc _ |>.alloc _ |>.alloc _ |>.alloc _))).mono ?_
 rw [orNone_ok HF.out,errV_nil HF.out]
 rintro e w1 ⟨v1,rfl,⟨a1,n1,k1,b1,o1,rfl,hn1,x1⟩,hb1⟩
 have B3:=((show Box _ (w.heap.size+1+1+1) [.int .i64 g.rows,.int .i64 g.cols,.slice ag ng kg] 41 from Box.x0)).keep hb1
 have B3c:=B3.cell
 have B3f:=B3.thawed
 have B3z:=B3.lt
 have B3k:=lt_add B3z
 have B4:=(show Box _ (w.heap.size+1+1+1+1) [.int .i64 0,.int .i64 0,.slice none 0 0] 41 from Box.x0).keep hb1
 have B4c:=B4.cell
 have B4f:=B4.thawed
 have B4z:=B4.lt
 have B4k:=lt_add B4z
 have B5:=(show Box _ (w.heap.size+1+1+1+1+1) [.int .i64 0,.int .i64 0,.slice none 0 0,.int .i64 0,.int .i64 0,.slice none 0 0] 86 from Box.x0).keep hb1
 have B5c:=B5.cell
 have B5f:=B5.thawed
 have B5z:=B5.lt
 have B5k:=lt_add B5z
 have xg1:=(xg.alloc _ |>.alloc _ |>.alloc _ |>.alloc _ |>.alloc _ |>.alloc _).keep hb1
 go_wp2_with fail
 have B10:Box (w1.alloc (.cells #[.int .i64 (matSums g).rows,.int .i64 (matSums g).cols,.slice a1 n1 k1] 41)) w1.heap.size [.int .i64 (matSums g).rows,.int .i64 (matSums g).cols,.slice a1 n1 k1] 41:=Box.new _ _ _
 have D5:=(((((((B5.alloc (.cells #[.int .i64 (matSums g).rows,.int .i64 (matSums g).cols,.slice a1 n1 k1] 41)).drew).set 0 (.int .i64 0)).set 1 (.int .i64 0)).set 2 (.slice none 0 0)).set 3 (.int .i64 (matSums g).rows)).set 4 (.int .i64 (matSums g).cols)).set 5 (.slice a1 n1 k1)
 go_region_held3 (fun w'=>w'.cell? ⟨w.heap.size+1+1+1,0,none⟩=some (.int .i64 g.rows)∧w'.cell? ⟨w.heap.size+1+1+1,1,none⟩=some (.int .i64 g.cols)∧w'.cell? ⟨w.heap.size+1+1+1,2,none⟩=some (.slice ag ng kg)∧w'.cell? ⟨w1.heap.size,0,none⟩=some (.int .i64 (matSums g).rows)∧w'.cell? ⟨w1.heap.size,1,none⟩=some (.int .i64 (matSums g).cols)∧w'.cell? ⟨w1.heap.size,2,none⟩=some (.slice a1 n1 k1)) (exact cells33 (t:=41) (u:=41) (by first|exact B3.k1 hb2|exact B3.k) (by first|exact B10.k1 hb2|exact B10.k)) ((go_at_call 154;go_must (refine (each_any g.rows g.cols ag ng kg (by omega) 171 #[.pointer (some ⟨w.heap.size+1+1+1,0,none⟩)] (ix g.cells) _ cf_shiftB ?_).mono ?_);go_must (intro i hi U hU);go_must (exact shiftBack_any (w.heap.size+1+1+1) g.rows g.cols ag ng kg bg og g.cells U (Box.keep B3.k hU) (IntsAt.keep xg1.k hU) i hi (by omega));go_must (rintro e w2 ⟨b2,rfl,hbb,hi2,hb2⟩);go_must (have C4:Box w2 (w.heap.size+1+1+1+1) [.int .i64 0,.int .i64 0,.slice none 0 0] 41:=Box.keep B4.k hb2);go_must (first|(have C5:Box w2 (w.heap.size+1+1+1+1+1) [.int .i64 0,.int .i64 0,.slice none 0 0,.int .i64 0,.int .i64 0,.slice none 0 0] 86:=Box.keep B5.k hb2)|(have C5:=Box.keep D5 hb2));go_must (have C4c:=C4.cell;have C4f:=C4.thawed;have C4z:=C4.lt;have C5c:=C5.cell;have C5f:=C5.thawed;have C5z:=C5.lt)))
 all_goals (
  go_wp2
  have hs2:=hb2.size
  simp at hs2 hbb
  have hn1':0<n1→w.heap.size+1+1+1+1+1<b1:=fun h=>by have:=hn1 h;simp at this;omega
  refine bodyPost_ret (v:=.tuple #[.agg #[.int .i64 g.rows,.int .i64 g.cols,.slice (some ⟨b2,0,none⟩) ng ng],.agg #[.int .i64 0,.int .i64 0,.slice none 0 0,.int .i64 (matSums g).rows,.int .i64 (matSums g).cols,.slice a1 n1 k1]]) ?_ rfl ⟨_,_,rfl,?_,?_,?_⟩
  ·simp [results,Tryz.results167,go_sem,C4c,C5c]
  ·exact MatNew.mk (b:=b2) (off:=0) (fun _=>by omega) hi2.k
  ·exact ⟨_,_,_,0,0,a1,n1,k1,b1,o1,rfl,fun h=>absurd h (Nat.lt_irrefl _),noInts _,fun h=>by have:=hn1' h;omega,(by repeat (first|(with_reducible first|exact x1|refine IntsAt.alloc ?_ _|refine IntsAt.drewN ?_ _|refine IntsAt.drew ?_|(refine IntsAt.set ?_ ?_ _;rotate_left 1;(intro h0;have hq0:=hn1' h0;first|(dsimp only;omega)|omega|(simp;omega)|simp))|refine IntsAt.keep ?_ hb2)|exact x1))⟩
  ·exact (Below.x2 hb2 hb1))
end Go.Proofs.YtchngeagnlngaaaGreatDoor
end
