/- Texts joined: RNet1, RTrain2. -/
import Derived.Test.YtchngeagnlngaaaGreatDoorJ22
import Derived.Test.YtchngeagnlngaaaGreatDoorJ19
import Derived.Test.YtchngeagnlngaaaGreatDoorJ21
import Derived.Test.YtchngeagnlngaaaGreatDoorJ43
import Derived.Test.YtchngeagnlngaaaGreatDoorJ26
import Derived.Test.YtchngeagnlngaaaGreatDoorJ44
set_option linter.unusedVariables false
set_option linter.unusedSimpArgs false
set_option linter.unusedSectionVars false
section
namespace Go.Proofs.YtchngeagnlngaaaGreatDoor
open Go.RowKit Gal
set_option maxRecDepth 100000
set_option maxHeartbeats 4000000
theorem refNetWide_any (ls:List Lay) (F:Nat→Prop) (a:Option Addr) (n k b o:Nat) (i:Int) (w:World) (h:RowAt Form.lay w F a n k b o ls) (hi:-9223372036854775808≤i∧i≤9223372036854775807) :
  Calls Tryz.prog 42 #[.slice a n k,.int .i64 i] w fun e w'=>e=.returned (.tuple #[.int .i64 (okOr (netWideFault ls i) (netW ls i n)),.int .i64 (netWideFault ls i)])∧Below w.heap.size w w':=by
 have hl:=h.len
 have hm:=h.max
 unfold maxLen at hm
 by_cases h12:12<n
 ·have hf:netWideFault ls i=3:=by unfold netWideFault;rw [if_pos (by omega)]
  rw [hf,okOr_bad (by omega)]
  clear hf
  go_enter Tryz.func42,Tryz.ntmps42
  go_wp2
  refine bodyPost_ret (v:=.tuple #[.int .i64 0,.int .i64 3]) (by simp [results,Tryz.results42,go_sem]) rfl ⟨?_,?_⟩
  ·rfl
  ·exact Below.refl _ _
 ·have HF0:Hid (netWideFault ls i=if n=0∧(i<0∨12<i) then 1 else wideTo ls i n):=Lib.hid (by unfold netWideFault;rw [if_neg (by omega),hl])
  go_enter Tryz.func42,Tryz.ntmps42
  go_wp2
  go_loopw [1,6] (fun s j wr=>∃ t:Nat,t≤n∧j=.int .i64 t∧s=.int .i64 (netW ls i t)∧wideTo ls i t=0∧Below w.heap.size w wr) (fun _ j _=>n - (intOf j).toNat)
  case atStart=>exact ⟨0,Nat.zero_le _,rfl,rfl,rfl,Below.refl _ _⟩
  case round=>
   obtain ⟨t,ht,rfl,rfl,hw0,hbr⟩:=hrel
   have HW:=Lib.hid hw0
   have hbd:-9223372036854775808≤netW ls i t∧netW ls i t≤9223372036854775807:=by
    rcases Nat.eq_zero_or_pos t with rfl|hp
    ·exact hi
    ·have:=netW_bd hw0 hp;omega
   by_cases hlt:t<n
   ·clear hw0
    have HFN:Hid (netWideFault ls i=wideTo ls i n):=Lib.hid (by rw [HF0.out,if_neg (by omega)])
    have HST:Hid ((lx ls t).wideFault (netW ls i t)≠0→wideTo ls i n=(lx ls t).wideFault (netW ls i t)):=Lib.hid fun hne=>by
     have hs:wideTo ls i (t+1)=(lx ls t).wideFault (netW ls i t):=wideTo_succ HW.out
     rw [wideTo_stop (show t+1≤n by omega) (by rw [hs];exact hne),hs]
    obtain rfl:=h.ptr (by omega)
    obtain ⟨a1,n1,k1,b1,o1,a2,n2,k2,b2,o2,c0,c1,c2,c3,c4,c5,c6,x1,x2⟩:=lay_cells (h.keep hbr) hlt
    have hbs:=(h.keep hbr).lt (by omega)
    by_cases hf:(lx ls t).fault=0
    ·have HF:=Lib.hid hf
     by_cases h1:netW ls i t<0∨12<netW ls i t
     ·have HWF:Hid ((lx ls t).wideFault (netW ls i t)=1):=Lib.hid (by unfold Lay.wideFault;rw [if_neg (by simp [hf]),if_pos h1])
      clear hf
      rcases h1 with h1|h1
      ·go_wp2_with fail
       refine (refLayerFault_any (lx ls t) _ _ ⟨_,_,_,_,_,_,_,_,_,_,rfl,x1,x2⟩).mono ?_
       rw [HF.out]
       rintro e w1 ⟨rfl,hb1⟩
       have hbe:Below w.heap.size w w1:=(Below.y1 hb1 hbr)
       go_wp2
       refine bodyPost_ret (v:=.tuple #[.int .i64 0,.int .i64 1]) (by simp [results,Tryz.results42,go_sem]) rfl ⟨?_,?_⟩
       ·rw [HFN.out,HST.out (by rw [HWF.out];decide),HWF.out,okOr_bad (by decide)]
       ·exact hbe
      ·go_wp2_with fail
       refine (refLayerFault_any (lx ls t) _ _ ⟨_,_,_,_,_,_,_,_,_,_,rfl,x1,x2⟩).mono ?_
       rw [HF.out]
       rintro e w1 ⟨rfl,hb1⟩
       have hbe:Below w.heap.size w w1:=(Below.y1 hb1 hbr)
       go_wp2
       refine bodyPost_ret (v:=.tuple #[.int .i64 0,.int .i64 1]) (by simp [results,Tryz.results42,go_sem]) rfl ⟨?_,?_⟩
       ·rw [HFN.out,HST.out (by rw [HWF.out];decide),HWF.out,okOr_bad (by decide)]
       ·exact hbe
     ·have h2:0≤netW ls i t:=by omega
      have h3:netW ls i t≤12:=by omega
      have HWF:Hid ((lx ls t).wideFault (netW ls i t)=if (lx ls t).takes (netW ls i t) then 0 else 2):=Lib.hid (by unfold Lay.wideFault;rw [if_neg (by simp [hf]),if_neg h1])
      clear hf h1
      by_cases hk:(lx ls t).takes (netW ls i t)
      ·have HO:Hid ((lx ls t).wideOr (netW ls i t)=netW ls i (t+1)):=Lib.hid (if_pos hk)
       have hz:(lx ls t).wideFault (netW ls i t)=0:=by rw [HWF.out,if_pos hk]
       have hn0:0≤netW ls i (t+1):=(wide_bd hz).1
       have HZ:=Lib.hid hz
       clear hz hk
       go_wp2_with fail
       refine (refLayerFault_any (lx ls t) _ _ ⟨_,_,_,_,_,_,_,_,_,_,rfl,x1,x2⟩).mono ?_
       rw [HF.out]
       rintro e w1 ⟨rfl,hb1⟩
       have d0:=cell_keep hb1 c0
       have d1:=cell_keep hb1 c1
       have d2:=cell_keep hb1 c2
       have d3:=cell_keep hb1 c3
       have d4:=cell_keep hb1 c4
       have d5:=cell_keep hb1 c5
       have d6:=cell_keep hb1 c6
       have y1:=x1.keep hb1
       have y2:=x2.keep hb1
       go_wp2_with fail
       refine (refWideOf_any (lx ls t) _ (netW ls i t) _ ⟨_,_,_,_,_,_,_,_,_,_,rfl,y1,y2⟩).mono ?_
       rw [HO.out]
       rintro e w2 ⟨rfl,hb2⟩
       have hbe:Below w.heap.size w w2:=(by repeat (first|(with_reducible first|exact Below.refl _ _|exact hbr|refine Below.al ?_ _|refine Below.drN ?_ _|refine Below.drew ?_|refine Below.sx ?_ _|refine Below.go ?_ hb2|refine Below.go ?_ hb1)|exact Below.refl _ _|exact hbr))
       go_wp2
       go_roundw
       case rel=>exact ⟨t+1,by omega,by go_num,rfl,by rw [wideTo_succ HW.out];exact HZ.out,hbe⟩
       case measure=>simp [intOf];omega
      ·have HO:Hid ((lx ls t).wideOr (netW ls i t) = -1):=Lib.hid (if_neg hk)
       have HWG:Hid ((lx ls t).wideFault (netW ls i t)=2):=Lib.hid (by rw [HWF.out,if_neg hk])
       clear hk
       go_wp2_with fail
       refine (refLayerFault_any (lx ls t) _ _ ⟨_,_,_,_,_,_,_,_,_,_,rfl,x1,x2⟩).mono ?_
       rw [HF.out]
       rintro e w1 ⟨rfl,hb1⟩
       have d0:=cell_keep hb1 c0
       have d1:=cell_keep hb1 c1
       have d2:=cell_keep hb1 c2
       have d3:=cell_keep hb1 c3
       have d4:=cell_keep hb1 c4
       have d5:=cell_keep hb1 c5
       have d6:=cell_keep hb1 c6
       have y1:=x1.keep hb1
       have y2:=x2.keep hb1
       go_wp2_with fail
       refine (refWideOf_any (lx ls t) _ (netW ls i t) _ ⟨_,_,_,_,_,_,_,_,_,_,rfl,y1,y2⟩).mono ?_
       rw [HO.out]
       rintro e w2 ⟨rfl,hb2⟩
       have hbe:Below w.heap.size w w2:=(by repeat (first|(with_reducible first|exact Below.refl _ _|exact hbr|refine Below.al ?_ _|refine Below.drN ?_ _|refine Below.drew ?_|refine Below.sx ?_ _|refine Below.go ?_ hb2|refine Below.go ?_ hb1)|exact Below.refl _ _|exact hbr))
       go_wp2
       refine bodyPost_ret (v:=.tuple #[.int .i64 0,.int .i64 2]) (by simp [results,Tryz.results42,go_sem]) rfl ⟨?_,?_⟩
       ·rw [HFN.out,HST.out (by rw [HWG.out];decide),HWG.out,okOr_bad (by decide)]
       ·exact hbe
    ·have HWF:Hid ((lx ls t).wideFault (netW ls i t)=(lx ls t).fault):=Lib.hid (by unfold Lay.wideFault;rw [if_pos hf])
     have HN:=Lib.hid hf
     have q1:((lx ls t).fault == 0)=false:=by simp [hf]
     have q2:((lx ls t).fault != 0)=true:=by simp [hf]
     clear hf
     go_wp2_with fail
     refine (refLayerFault_any (lx ls t) _ _ ⟨_,_,_,_,_,_,_,_,_,_,rfl,x1,x2⟩).mono ?_
     rintro e w1 ⟨rfl,hb1⟩
     have hbe:Below w.heap.size w w1:=(Below.y1 hb1 hbr)
     go_wp2
     refine bodyPost_ret (v:=.tuple #[.int .i64 0,.int .i64 (lx ls t).fault]) (by simp [results,Tryz.results42,go_sem]) rfl ⟨?_,?_⟩
     ·rw [HFN.out,HST.out (by rw [HWF.out];exact HN.out),HWF.out,okOr_bad HN.out]
     ·exact hbe
   ·obtain rfl:t=n:=by omega
    by_cases h1:netW ls i t<0∨12<netW ls i t
    ·have ht0:t=0:=by
      rcases Nat.eq_zero_or_pos t with h|h
      ·exact h
      ·have:=netW_bd hw0 h;omega
     have HFF:Hid (netWideFault ls i=1):=Lib.hid (by rw [HF0.out,if_pos ⟨ht0,by subst ht0;exact h1⟩])
     clear hw0 ht0
     rcases h1 with h1|h1
     ·go_wp2
      refine bodyPost_ret (v:=.tuple #[.int .i64 0,.int .i64 1]) (by simp [results,Tryz.results42,go_sem]) rfl ⟨?_,?_⟩
      ·rw [HFF.out,okOr_bad (by decide)]
      ·exact hbr
     ·go_wp2
      refine bodyPost_ret (v:=.tuple #[.int .i64 0,.int .i64 1]) (by simp [results,Tryz.results42,go_sem]) rfl ⟨?_,?_⟩
      ·rw [HFF.out,okOr_bad (by decide)]
      ·exact hbr
    ·have h2:0≤netW ls i t:=by omega
     have h3:netW ls i t≤12:=by omega
     have HFF:Hid (netWideFault ls i=0):=Lib.hid (by
      rw [HF0.out,if_neg,hw0]
      rintro ⟨rfl,q⟩
      exact h1 q)
     clear hw0 h1
     go_wp2
     refine bodyPost_ret (v:=.tuple #[.int .i64 (netW ls i t),.int .i64 0]) (by simp [results,Tryz.results42,go_sem]) rfl ⟨?_,?_⟩
     ·rw [HFF.out,okOr_ok rfl]
     ·exact hbr
end Go.Proofs.YtchngeagnlngaaaGreatDoor
end
section
set_option maxRecDepth 100000
namespace Go.Proofs.YtchngeagnlngaaaGreatDoor
open Go.RowKit Gal
set_option maxHeartbeats 4000000
def RefPartsEnd (w:World) (s:Sta) (d:Bat) (p ln kp:Int) (e:Ending) (w':World):Prop:=
 ∃ u,e=.returned (.tuple #[u,.int .i64 (oneFault s d p ln kp)])∧Below w.heap.size w w' ∧
  (oneFault s d p ln kp=0→∃ a k b,u=.slice a p.toNat k∧RowAt Form.bat w' (newB w.heap.size) a p.toNat k b 0 (partsTo d (sizesIn d p) p.toNat))∧(oneFault s d p ln kp≠0→u=.slice none 0 0)
theorem refOneFault_any (s:Sta) (d:Bat) (p ln kp:Int) (F G:Nat→Prop) (a0 a1:Option Addr) (n n1 k0 k1 b0 b1 o0 o1:Nat) (vb:Value) (w:World) (h0:RowAt Form.lay w F a0 n k0 b0 o0 s.N) (h1:RowAt Form.grd w G a1 n1 k1 b1 o1 s.V) (hd:BatAt w vb d) :
  Calls Tryz.prog 17 #[.agg #[.slice a0 n k0,.slice a1 n1 k1,.int .i64 s.steps],vb,.int .i64 p,.agg #[.int .i64 ln,.int .i64 kp]] w (RefPartsEnd w s d p ln kp):=by
 obtain ⟨a2,n2,k2,b2,o2,a3,n3,k3,b3,o3,rfl,x0,x1⟩:=hd
 have HL0:=Lib.hid h0.len
 by_cases hs:s.fault=0
 ·have HS := Lib.hid hs
  clear hs
  go_enter Tryz.func17,Tryz.ntmps17
  go_wp2_with fail
  refine (refStateFault_any s F G _ _ _ _ _ _ _ _ _ _ _ (h0.alloc _ |>.alloc _ |>.alloc _) (h1.alloc _ |>.alloc _ |>.alloc _)).mono ?_
  rw [HS.out]
  rintro e w1 ⟨rfl,hb1⟩
  have B4:=((show Box _ w.heap.size [.slice a0 n k0,.slice a1 n1 k1,.int .i64 s.steps] 25 from Box.x0)).keep hb1
  have B4c:=B4.cell
  have B4f:=B4.thawed
  have B4z:=B4.lt
  have B4k:=lt_add B4z
  have B5:=((show Box _ (w.heap.size+1) [.int .i64 d.I.rows,.int .i64 d.I.cols,.slice a2 n2 k2,.int .i64 d.W.rows,.int .i64 d.W.cols,.slice a3 n3 k3] 43 from Box.x0)).keep hb1
  have B5c:=B5.cell
  have B5f:=B5.thawed
  have B5z:=B5.lt
  have B5k:=lt_add B5z
  have B7:=((show Box _ (w.heap.size+1+1) [.int .i64 ln,.int .i64 kp] 28 from Box.x0)).keep hb1
  have B7c:=B7.cell
  have B7f:=B7.thawed
  have B7z:=B7.lt
  have B7k:=lt_add B7z
  have hkw1:Below w.heap.size w w1:=(Below.x1 hb1)
  replace h0:=h0.keep hkw1
  replace x0:=x0.keep hkw1
  replace x1:=x1.keep hkw1
  have hsw1:=hkw1.size
  by_cases hf2:splitFault d p=0
  ·have HF2:=Lib.hid hf2
   clear hf2
   go_wp2_with fail
   refine (refSplit_any d p _ _ ⟨a2,n2,k2,b2,o2,a3,n3,k3,b3,o3,rfl,x0,x1⟩).mono ?_
   rw [HF2.out]
   rintro e w2 ⟨u2,rfl,hb2,hu2,_⟩
   obtain ⟨aL,kL,bL,rfl,rL⟩:=hu2 rfl
   have hkw2:Below w1.heap.size w1 w2:=(Below.x1 hb2)
   replace B4:=B4.keep hkw2
   replace B4c:=B4.cell
   replace B4f:=B4.thawed
   replace B4z:=B4.lt
   replace B4k:=lt_add B4z
   replace B5:=B5.keep hkw2
   replace B5c:=B5.cell
   replace B5f:=B5.thawed
   replace B5z:=B5.lt
   replace B5k:=lt_add B5z
   replace B7:=B7.keep hkw2
   replace B7c:=B7.cell
   replace B7f:=B7.thawed
   replace B7z:=B7.lt
   replace B7k:=lt_add B7z
   replace h0:=h0.keep hkw2
   have hsw2:=hkw2.size
   have hbw2:Below w.heap.size w w2:=(Below.x2 hb2 hb1)
   have rL9:RowAt Form.bat w2 (newB w.heap.size) aL p.toNat kL bL 0 (partsTo d (sizesIn d p) p.toNat):=rL.wide (fun b hb _=>Nat.le_trans (by have:=hkw1.size;exact this) hb)
   clear hu2 rL x0 x1 hb1 hb2
   have hdc:-9223372036854775808≤d.I.cols∧d.I.cols≤9223372036854775807:=by
    obtain ⟨R,K,xs,e,_,hK,_⟩:=mat_form (Bat.fault_ok (splitFault_ok HF2.out).1).1
    rw [e]
    dsimp only
    omega
   by_cases hf3:netWideFault s.N d.I.cols=0
   ·have HF3:=Lib.hid hf3
    have HK3:Hid (okOr (netWideFault s.N d.I.cols) (netW s.N d.I.cols n)=netW s.N d.I.cols n):=Lib.hid (okOr_ok hf3)
    have HF4:=Lib.hid (oneFault_4 (ln:=ln) (kp:=kp) HS.out HF2.out hf3)
    clear hf3
    go_wp2_with fail
    refine (refNetWide_any s.N F _ _ _ _ _ d.I.cols _ h0 hdc).mono ?_
    rw [HK3.out,HF3.out]
    rintro e w3 ⟨rfl,hb3⟩
    have hkw3:Below w2.heap.size w2 w3:=(Below.x1 hb3)
    replace B4:=B4.keep hkw3
    replace B4c:=B4.cell
    replace B4f:=B4.thawed
    replace B4z:=B4.lt
    replace B4k:=lt_add B4z
    replace B5:=B5.keep hkw3
    replace B5c:=B5.cell
    replace B5f:=B5.thawed
    replace B5z:=B5.lt
    replace B5k:=lt_add B5z
    replace B7:=B7.keep hkw3
    replace B7c:=B7.cell
    replace B7f:=B7.thawed
    replace B7z:=B7.lt
    replace B7k:=lt_add B7z
    replace rL9:=rL9.keep hkw3
    have hsw3:=hkw3.size
    have hbe:Below w.heap.size w w3:=(Below.y1 hb3 hbw2)
    obtain ⟨W,hW⟩:∃ W,netW s.N d.I.cols n=W:=⟨_,rfl⟩
    have HW:Hid (netW s.N d.I.cols s.N.length=W):=Lib.hid (by rw [HL0.out];exact hW)
    rw [hW]
    clear hW hb3 hbw2 h0
    by_cases q1:W=d.W.cols
    ·have e1:(W != d.W.cols)=false:=by rw [bne_eq_false_iff_eq];exact q1
     have HQ1:Hid (netW s.N d.I.cols s.N.length=d.W.cols):=Lib.hid (by rw [HW.out];exact q1)
     have hp:=splitFault_ok HF2.out
     obtain ⟨a9,n9,k9,b9,o9,a8,n8,k8,b8,o8,c0,_⟩:=bat_cells (i:=0) (d:=partOf d (sizesIn d p) 0) rL9 (by
      unfold partsTo
      rw [List.getElem?_map,List.getElem?_range (by omega)]
      rfl)
     have hpw:=(part_whole (k:=0) (Bat.fault_ok hp.1).1 (sizes_sum HF2.out)).2.1
     have hc0:(partOf d (sizesIn d p) 0).I.rows=(nx (sizesIn d p) 0:Int):=hpw
     obtain ⟨Z,hZ⟩:∃ Z,nx (sizesIn d p) 0=Z:=⟨_,rfl⟩
     rw [hZ] at hc0
     rw [hc0] at c0
     have hp0:0<p.toNat:=by omega
     obtain rfl:=rL9.ptr hp0
     have pI:(0:Int)<(p.toNat:Int):=by omega
     have HZ:=Lib.hid hZ
     have HRL:=Lib.hid rL9
     clear hp hpw hc0 hZ q1 rL9
     by_cases q2:12<Z
     ·have e2:((Z:Int) > 12)=True:=eq_true (by omega)
      have HNZ:Hid ((1:Int)≠0):=Lib.hid (by decide)
      have HR:Hid (oneFault s d p ln kp=1):=Lib.hid (by rw [HF4.out,if_neg (by simp [HQ1.out]),if_pos (by rw [HZ.out];exact q2)])
      go_wp2
      refine bodyPost_ret (v:=.tuple #[.slice none 0 0,.int .i64 (1)]) (by simp [results,Tryz.results17,go_sem]) rfl ⟨_,by rw [HR.out],hbe,fun h=>absurd (HR.out.symm.trans h) HNZ.out,fun _=>rfl⟩
     ·have e2:((Z:Int) > 12)=False:=eq_false (by omega)
      have HQ2:Hid (¬ 12<nx (sizesIn d p) 0):=Lib.hid (by rw [HZ.out];exact q2)
      clear q2
      by_cases r1:ln<0
      ·have i1:(ln<0)=True:=eq_true r1
       have HQ3:Hid (ln<0∨256<ln∨kp<0∨256<kp):=Lib.hid (Or.inl r1)
       have HNZ:Hid ((1:Int)≠0):=Lib.hid (by decide)
       have HR:Hid (oneFault s d p ln kp=1):=Lib.hid (by rw [HF4.out,if_neg (by simp [HQ1.out]),if_neg HQ2.out,if_pos HQ3.out])
       go_wp2
       refine bodyPost_ret (v:=.tuple #[.slice none 0 0,.int .i64 (1)]) (by simp [results,Tryz.results17,go_sem]) rfl ⟨_,by rw [HR.out],hbe,fun h=>absurd (HR.out.symm.trans h) HNZ.out,fun _=>rfl⟩
      ·have i1:(ln<0)=False:=eq_false r1
       by_cases r2:256<ln
       ·have i2:(ln > 256)=True:=eq_true r2
        have HQ3:Hid (ln<0∨256<ln∨kp<0∨256<kp):=Lib.hid (Or.inr (Or.inl r2))
        have HNZ:Hid ((1:Int)≠0):=Lib.hid (by decide)
        have HR:Hid (oneFault s d p ln kp=1):=Lib.hid (by rw [HF4.out,if_neg (by simp [HQ1.out]),if_neg HQ2.out,if_pos HQ3.out])
        go_wp2
        refine bodyPost_ret (v:=.tuple #[.slice none 0 0,.int .i64 (1)]) (by simp [results,Tryz.results17,go_sem]) rfl ⟨_,by rw [HR.out],hbe,fun h=>absurd (HR.out.symm.trans h) HNZ.out,fun _=>rfl⟩
       ·have i2:(ln > 256)=False:=eq_false r2
        by_cases r3:kp<0
        ·have i3:(kp<0)=True:=eq_true r3
         have HQ3:Hid (ln<0∨256<ln∨kp<0∨256<kp):=Lib.hid (Or.inr (Or.inr (Or.inl r3)))
         have HNZ:Hid ((1:Int)≠0):=Lib.hid (by decide)
         have HR:Hid (oneFault s d p ln kp=1):=Lib.hid (by rw [HF4.out,if_neg (by simp [HQ1.out]),if_neg HQ2.out,if_pos HQ3.out])
         go_wp2
         refine bodyPost_ret (v:=.tuple #[.slice none 0 0,.int .i64 (1)]) (by simp [results,Tryz.results17,go_sem]) rfl ⟨_,by rw [HR.out],hbe,fun h=>absurd (HR.out.symm.trans h) HNZ.out,fun _=>rfl⟩
        ·have i3:(kp<0)=False:=eq_false r3
         by_cases r4:256<kp
         ·have i4:(kp > 256)=True:=eq_true r4
          have HQ3:Hid (ln<0∨256<ln∨kp<0∨256<kp):=Lib.hid (Or.inr (Or.inr (Or.inr r4)))
          have HNZ:Hid ((1:Int)≠0):=Lib.hid (by decide)
          have HR:Hid (oneFault s d p ln kp=1):=Lib.hid (by rw [HF4.out,if_neg (by simp [HQ1.out]),if_neg HQ2.out,if_pos HQ3.out])
          go_wp2
          refine bodyPost_ret (v:=.tuple #[.slice none 0 0,.int .i64 (1)]) (by simp [results,Tryz.results17,go_sem]) rfl ⟨_,by rw [HR.out],hbe,fun h=>absurd (HR.out.symm.trans h) HNZ.out,fun _=>rfl⟩
         ·have i4:(kp > 256)=False:=eq_false r4
          have HR:Hid (oneFault s d p ln kp=0):=Lib.hid (by rw [HF4.out,if_neg (by simp [HQ1.out]),if_neg HQ2.out,if_neg (by omega)])
          go_wp2
          refine bodyPost_ret (v:=.tuple #[.slice (some ⟨bL,0,none⟩) p.toNat kL,.int .i64 0]) (by simp [results,Tryz.results17,go_sem]) rfl ⟨_,by rw [HR.out],hbe,fun _=>⟨_,kL,bL,rfl,HRL.out⟩,fun h=>absurd HR.out h⟩
    ·have e1:(W != d.W.cols)=true:=by rw [bne_iff_ne];exact q1
     have HNZ:Hid ((2:Int)≠0):=Lib.hid (by decide)
     have HQ1:Hid (netW s.N d.I.cols s.N.length≠d.W.cols):=Lib.hid (by rw [HW.out];exact q1)
     clear q1 rL9
     have HR:Hid (oneFault s d p ln kp=2):=Lib.hid (by rw [HF4.out,if_pos HQ1.out])
     go_wp2
     refine bodyPost_ret (v:=.tuple #[.slice none 0 0,.int .i64 (2)]) (by simp [results,Tryz.results17,go_sem]) rfl ⟨_,by rw [HR.out],hbe,fun h=>absurd (HR.out.symm.trans h) HNZ.out,fun _=>rfl⟩
   ·have HNZ:=Lib.hid hf3
    have q9:(netWideFault s.N d.I.cols != 0)=true:=by rw [bne_iff_ne];exact hf3
    have HK3:Hid (okOr (netWideFault s.N d.I.cols) (netW s.N d.I.cols n)=0):=Lib.hid (okOr_bad hf3)
    clear hf3
    go_wp2_with fail
    refine (refNetWide_any s.N F _ _ _ _ _ d.I.cols _ h0 hdc).mono ?_
    rw [HK3.out]
    rintro e w3 ⟨rfl,hb3⟩
    have hbe:Below w.heap.size w w3:=(Below.y1 hb3 hbw2)
    have HR:Hid (oneFault s d p ln kp=netWideFault s.N d.I.cols):=Lib.hid (oneFault_3 HS.out HF2.out HNZ.out)
    go_wp2
    refine bodyPost_ret (v:=.tuple #[.slice none 0 0,.int .i64 (netWideFault s.N d.I.cols)]) (by simp [results,Tryz.results17,go_sem]) rfl ⟨_,by rw [HR.out],hbe,fun h=>absurd (HR.out.symm.trans h) HNZ.out,fun _=>rfl⟩
  ·have HNZ:=Lib.hid hf2
   have q9:(splitFault d p != 0)=true:=by rw [bne_iff_ne];exact hf2
   clear hf2
   go_wp2_with fail
   refine (refSplit_any d p _ _ ⟨a2,n2,k2,b2,o2,a3,n3,k3,b3,o3,rfl,x0,x1⟩).mono ?_
   rintro e w2 ⟨u2,rfl,hb2,_,_⟩
   have hbe:Below w.heap.size w w2:=(Below.x2 hb2 hb1)
   have HR:Hid (oneFault s d p ln kp=splitFault d p):=Lib.hid (oneFault_2 HS.out HNZ.out)
   go_wp2
   refine bodyPost_ret (v:=.tuple #[.slice none 0 0,.int .i64 (splitFault d p)]) (by simp [results,Tryz.results17,go_sem]) rfl ⟨_,by rw [HR.out],hbe,fun h=>absurd (HR.out.symm.trans h) HNZ.out,fun _=>rfl⟩
 ·have HNZ:=Lib.hid hs
  have q9:(s.fault != 0)=true:=by rw [bne_iff_ne];exact hs
  clear hs
  go_enter Tryz.func17,Tryz.ntmps17
  go_wp2_with fail
  refine (refStateFault_any s F G _ _ _ _ _ _ _ _ _ _ _ (h0.alloc _ |>.alloc _ |>.alloc _) (h1.alloc _ |>.alloc _ |>.alloc _)).mono ?_
  rintro e w1 ⟨rfl,hb1⟩
  have hbe:Below w.heap.size w w1:=(Below.x1 hb1)
  have HR:Hid (oneFault s d p ln kp=s.fault):=Lib.hid (oneFault_1 HNZ.out)
  go_wp2
  refine bodyPost_ret (v:=.tuple #[.slice none 0 0,.int .i64 (s.fault)]) (by simp [results,Tryz.results17,go_sem]) rfl ⟨_,by rw [HR.out],hbe,fun h=>absurd (HR.out.symm.trans h) HNZ.out,fun _=>rfl⟩
end Go.Proofs.YtchngeagnlngaaaGreatDoor
end
