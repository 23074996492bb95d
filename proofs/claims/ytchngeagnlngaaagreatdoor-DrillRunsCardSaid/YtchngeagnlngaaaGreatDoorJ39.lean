/- Texts joined: Keep4, Keep5, Is, ApartR. -/
import Derived.Test.YtchngeagnlngaaaGreatDoorJ36
import Derived.Test.YtchngeagnlngaaaGreatDoorJ38
import Derived.Test.YtchngeagnlngaaaGreatDoorJ37
import Derived.Test.YtchngeagnlngaaaGreatDoorJ06
import Derived.WalkKit
import Derived.LaidEql
import Derived.Stop.Asserts
import Derived.RowKitTokens
import Derived.Test.YtchngeagnlngaaaGreatDoorJ05
set_option linter.unusedVariables false
set_option linter.unusedSimpArgs false
set_option linter.unusedSectionVars false
section
set_option maxRecDepth 100000
namespace Go.Proofs.YtchngeagnlngaaaGreatDoor
open Go.RowKit Gal
set_option maxHeartbeats 4000000
def eyeErr (ev:Value) (ok:Bool):Value:=if ok then .nilIface else ev
abbrev EyeAt (w:World) (E b o L K p:Nat) (er:Value):Prop:=Box w E [.slice (some ⟨b,o+p,none⟩) (L - p) (K - p),er] 93
theorem eyeNumber_ok (cs:List Nat) (b o L K E at0:Nat) (pv:Value) (F:Nat→Prop) (w:World) (h:RowAt Form.u8 w F (some ⟨b,o,none⟩) L K b o cs) (hE:EyeAt w E b o L K at0 .nilIface) (hne:b≠E) (hat:at0≤L) (hK:L+2≤K) (hE0:E≠0) (hbl:b<w.heap.size)
  (hg:w.cell? ⟨0,0,none⟩=some (.iface 218 pv)) :
  Calls Tryz.prog 30 #[.pointer (some ⟨E,0,none⟩)] w fun e w'=>∃ (v at1:Nat) (ok1:Bool),e=.returned (.int .i64 (v:Int))∧EyeAt w' E b o L K at1 (eyeErr (.iface 218 pv) ok1)∧Far (fun y=>y=E) w w'∧at0≤at1∧at1≤L∧EyeN cs at0 at1 true ok1 v:=by
 have HL:=Lib.hid h.len
 have hmx:=h.maxc
 unfold maxLen at hmx
 have hw0:=World.block_lt_of_cell? _ _ hg
 have HGV:Hid (∀ W,Far (fun y=>y=E) w W→W.cell? ⟨0,0,none⟩=some (.iface 218 pv)):=Lib.hid (fun W hf=>(World.cell?_of_block (a:=⟨0,0,none⟩) (hf.block 0 hw0 (fun e=>hE0 e.symm))).trans hg)
 have HU:Hid (∀ W,Far (fun y=>y=E) w W→∀ i,i<L→W.cell? ⟨b,o+i,none⟩=some (.int .u8 (bt cs i:Int))∧bt cs i<256):=Lib.hid (fun W hf i hi=>by
  have h1:=u8_cell h hi
  exact ⟨(World.cell?_of_block (a:=⟨b,o+i,none⟩) (hf.block b hbl (fun e=>hne e))).trans h1.1,h1.2⟩)
 obtain ⟨S,hS⟩:∃ S,sevAt cs at0=S:=⟨_,rfl⟩
 have HS:=Lib.hid hS
 have HS0:Hid (sevGo cs at0 (9 - 0) 0 0=S):=Lib.hid hS
 clear hS hg h
 go_enter Tryz.func30,Tryz.ntmps30
 go_wp2
 go_loopw [3,4] (fun u i wr=>∃ (t x:Nat),t≤9∧i=.int .i64 t∧u=.int .i64 x∧at0+t≤L∧x<2 ^ (7*t)∧Hid (sevGo cs at0 (9 - t) t x=S)∧EyeAt wr E b o L K (at0+t) .nilIface∧Far (fun y=>y=E) w wr) (fun _ i _=>9 - (intOf i).toNat)
 case atStart=>exact ⟨0,0,by decide,rfl,rfl,hat,by decide,HS0,hE,Far.refl _ _⟩
 case round=>
  clear hE
  obtain ⟨t,x,ht,rfl,rfl,hatn,hx,hgo,hE,hfr⟩:=hrel
  obtain ⟨p,hp⟩:∃ p,at0+t=p:=⟨_,rfl⟩
  rw [hp] at hE hatn
  have HP:=Lib.hid hp
  have c0:=hE.cell 0
  have c1:=hE.cell 1
  by_cases ht9:t<9
  ·have e9:((t:Int)<9)=True:=eq_true (by omega)
   obtain ⟨m,hm⟩:∃ m,L - p=m:=⟨_,rfl⟩
   obtain ⟨cp,hcp⟩:∃ cp,K - p=cp:=⟨_,rfl⟩
   have hE':Box wr E [.slice (some ⟨b,o+p,none⟩) m cp,.nilIface] 93:=by rw [← hm,← hcp];exact hE
   by_cases hend:p=L
   ·have hm0:m=0:=by omega
    subst hm0
    have hnone:S=none:=by
     rw [← hgo.out,show 9 - t=(8 - t)+1 by omega,sevGo,hp,List.getElem?_eq_none (by rw [HL.out];omega)]
    have HN:=Lib.hid hnone
    have c0':=hE'.cell 0
    clear hnone c0 hp hm hcp hE'
    have f9:=(hE).thawed 1
    have hgg:=HGV.out _ hfr
    have hfin:EyeAt ((wr).setCell ⟨E,1,none⟩ (.iface 218 pv)) E b o L K (p) (eyeErr (.iface 218 pv) false):=(hE).set 1 (.iface 218 pv)
    have hff:Far (fun y=>y=E) w ((wr).setCell ⟨E,1,none⟩ (.iface 218 pv)):=(hfr).st (fun _=>rfl) _
    have HFIN:=Lib.hid hfin
    have HFF:=Lib.hid hff
    clear hfin hff
    go_wp2
    go_ret
    exact ⟨0,p,false,rfl,HFIN.out,HFF.out,by have:=HP.out;omega,by omega,Or.inr ⟨rfl,rfl,fun _=>by rw [HS.out,HN.out]⟩⟩
   ·obtain ⟨c3,hd⟩:=HU.out wr hfr p (by omega)
    obtain ⟨d,hde⟩:∃ d,bt cs p=d:=⟨_,rfl⟩
    rw [hde] at c3 hd
    have hget:cs[p]?=some d:=by rw [← hde];exact bt_get (by rw [HL.out];omega)
    have hand:=and_127 hd
    obtain ⟨y,hy⟩:∃ y,d % 128=y:=⟨_,rfl⟩
    rw [hy] at hand
    have hyb:y<128:=by omega
    have hor:=or_seven' hx hyb (by omega)
    obtain ⟨x2,hx2⟩:∃ x2,x+y*2 ^ (7*t)=x2:=⟨_,rfl⟩
    rw [hx2] at hor
    have hxb:x2<2 ^ (7*(t+1)):=by
     rw [seven_pow,← hx2]
     have:=Nat.mul_le_mul_right (2 ^ (7*t)) (show y≤127 by omega)
     omega
    have HOR:=Lib.hid hor
    have hstep:sevGo cs at0 (9 - t) t x=if d<128 then (if d=0∧0<t then none else some (x+d*2 ^ (7*t),p+1)) else sevGo cs at0 (9 - (t+1)) (t+1) x2:=by
     rw [show 9 - t=(9 - (t+1))+1 by omega,sevGo,hp,hget]
     dsimp only
     rw [hy,hx2]
    rw [hgo.out] at hstep
    have HSTEP:=Lib.hid hstep
    have HXB:=Lib.hid hxb
    have HY:=Lib.hid hy
    have HX2:=Lib.hid hx2
    clear hor hstep hxb hx2
    have e1:((m:Int) == 0)=false:=by rw [beq_eq_false_iff_ne];omega
    have p0:(0:Int)<(m:Int):=by omega
    have p1:(1:Int)≤(m:Int):=by omega
    have l3:(cp=1)=False:=eq_false (by omega)
    have c0':=hE'.cell 0
    have f0:=hE'.thawed 0
    clear hde hp c0
    have hbx:EyeAt (wr.setCell ⟨E,0,none⟩ (.slice (some ⟨b,o+p+1,none⟩) (m - 1) (cp - 1))) E b o L K (p+1) .nilIface:=by
     have h1:=hE'.set 0 (.slice (some ⟨b,o+p+1,none⟩) (m - 1) (cp - 1))
     have q1:L - (p+1)=m - 1:=by omega
     have q2:K - (p+1)=cp - 1:=by omega
     show Box _ E [.slice (some ⟨b,o+(p+1),none⟩) (L - (p+1)) (K - (p+1)),.nilIface] 93
     rw [q1,q2]
     exact h1
    have hff:Far (fun y=>y=E) w (wr.setCell ⟨E,0,none⟩ (.slice (some ⟨b,o+p+1,none⟩) (m - 1) (cp - 1))):=hfr.st (fun _=>rfl) _
    obtain ⟨ws,hws⟩:∃ ws,wr.setCell ⟨E,0,none⟩ (.slice (some ⟨b,o+p+1,none⟩) (m - 1) (cp - 1))=ws:=⟨_,rfl⟩
    rw [hws] at hbx hff
    have HWS:=Lib.hid hws
    have hpL:p+1≤L:=by omega
    go_upto_region 8 with (fail)
    try rw [HWS.out]
    clear hws hE hE' hfr c0' f0 c1 c3 hm hcp
    go_upto_region 9 with (fail)
    rw [HOR.out]
    have b1:=hbx.cell 1
    by_cases hd128:d<128
    ·have e2:((d:Int)<128)=True:=eq_true (by omega)
     have hyd:y=d:=by have:=HY.out;omega
     by_cases hz:d=0∧0<t
     ·have hn:S=none:=by rw [HSTEP.out,if_pos hd128,if_pos hz]
      have HN:=Lib.hid hn
      have e3:((d:Int) == 0)=true:=by rw [beq_iff_eq];omega
      have e4:((t:Int) > 0)=True:=eq_true (by omega)
      obtain ⟨hz1,hz2⟩:=hz
      clear hn hz1
      have f9:=(hbx).thawed 1
      have hgg:=HGV.out _ hff
      have hfin:EyeAt ((ws).setCell ⟨E,1,none⟩ (.iface 218 pv)) E b o L K (p+1) (eyeErr (.iface 218 pv) false):=(hbx).set 1 (.iface 218 pv)
      have hff:Far (fun y=>y=E) w ((ws).setCell ⟨E,1,none⟩ (.iface 218 pv)):=(hff).st (fun _=>rfl) _
      have HFIN:=Lib.hid hfin
      have HFF:=Lib.hid hff
      clear hfin hff
      go_wp2
      go_ret
      exact ⟨0,p+1,false,rfl,HFIN.out,HFF.out,by have:=HP.out;omega,by omega,Or.inr ⟨rfl,rfl,fun _=>by rw [HS.out,HN.out]⟩⟩
     ·have hn:S=some (x2,p+1):=by rw [HSTEP.out,if_pos hd128,if_neg hz,← hyd,HX2.out]
      have HN:=Lib.hid hn
      by_cases hz1:d=0
      ·obtain rfl:t=0:=by omega
       subst hz1
       clear hn hz e9 ht9 ht
       go_wp2
       go_ret
       exact ⟨x2,rfl,p+1,Or.inr ⟨hbx,hff,by have:=HP.out;omega,hpL,Or.inl ⟨rfl,rfl,by rw [HS.out,HN.out]⟩⟩⟩
      ·have e3:((d:Int) == 0)=false:=by rw [beq_eq_false_iff_ne];omega
       clear hn hz
       go_wp2
       go_ret
       exact ⟨x2,p+1,true,rfl,hbx,hff,by have:=HP.out;omega,hpL,Or.inl ⟨rfl,rfl,by rw [HS.out,HN.out]⟩⟩
    ·have e2:((d:Int)<128)=False:=eq_false (by omega)
     have HN:Hid (sevGo cs at0 (9 - (t+1)) (t+1) x2=S):=Lib.hid (by rw [HSTEP.out,if_neg hd128])
     clear hd128
     go_wp2
     go_roundw
     case rel=>exact ⟨t+1,x2,by omega,by go_num,rfl,by have:=HP.out;omega,HXB.out,HN,by have:=HP.out;rw [show at0+(t+1)=p+1 by omega];exact hbx,hff⟩
     case measure=>simp [intOf];omega
  ·obtain rfl:t=9:=by omega
   have hnone:S=none:=by rw [← hgo.out];rfl
   have HN:=Lib.hid hnone
   clear hnone hp c0
   have f9:=(hE).thawed 1
   have hgg:=HGV.out _ hfr
   have hfin:EyeAt ((wr).setCell ⟨E,1,none⟩ (.iface 218 pv)) E b o L K (p) (eyeErr (.iface 218 pv) false):=(hE).set 1 (.iface 218 pv)
   have hff:Far (fun y=>y=E) w ((wr).setCell ⟨E,1,none⟩ (.iface 218 pv)):=(hfr).st (fun _=>rfl) _
   have HFIN:=Lib.hid hfin
   have HFF:=Lib.hid hff
   clear hfin hff
   go_wp2
   go_ret
   exact ⟨0,p,false,rfl,HFIN.out,HFF.out,by have:=HP.out;omega,by omega,Or.inr ⟨rfl,rfl,fun _=>by rw [HS.out,HN.out]⟩⟩
theorem eyeNumber_not (b o L K E at0:Nat) (pv:Value) (w:World) (hE:EyeAt w E b o L K at0 (.iface 218 pv)) (hE0:E≠0)
  (hg:w.cell? ⟨0,0,none⟩=some (.iface 218 pv)) :
  Calls Tryz.prog 30 #[.pointer (some ⟨E,0,none⟩)] w fun e w'=>e=.returned (.int .i64 0)∧EyeAt w' E b o L K at0 (.iface 218 pv)∧Far (fun y=>y=E) w w':=by
 have c1:=hE.cell 1
 have f9:=hE.thawed 1
 have hfin:EyeAt (w.setCell ⟨E,1,none⟩ (.iface 218 pv)) E b o L K at0 (.iface 218 pv):=hE.set 1 (.iface 218 pv)
 have hff:Far (fun y=>y=E) w (w.setCell ⟨E,1,none⟩ (.iface 218 pv)):=(Far.refl (fun y=>y=E) w).st (fun _=>rfl) _
 have HFIN:=Lib.hid hfin
 have HFF:=Lib.hid hff
 clear hfin hff
 go_enter Tryz.func30,Tryz.ntmps30
 go_wp2
 go_loopw [3,4] (fun u i wr=>u=.int .i64 0∧i=.int .i64 0∧wr=w) (fun _ i _=>0)
 case atStart=>exact ⟨rfl,rfl,rfl⟩
 case round=>
  obtain ⟨rfl,rfl,rfl⟩:=hrel
  go_wp2
  go_ret
  exact ⟨rfl,HFIN.out,HFF.out⟩
end Go.Proofs.YtchngeagnlngaaaGreatDoor
end
section
set_option maxRecDepth 100000
namespace Go.Proofs.YtchngeagnlngaaaGreatDoor
open Go.RowKit Gal
set_option maxHeartbeats 8000000
structure Looks (w:World) (cs:List Nat) (b o L K E:Nat) (pv:Value):Prop where
 row:RowAt Form.u8 w (fun c=>c=b) (some ⟨b,o,none⟩) L K b o cs
 ne:b≠E
 room:L+2≤K
 e0:E≠0
 lt:b<w.heap.size
 g:w.cell? ⟨0,0,none⟩=some (.iface 218 pv)
theorem Looks.far {w w':World} {cs:List Nat} {b o L K E:Nat} {pv:Value} (h:Looks w cs b o L K E pv) (hf:Far (fun y=>y=E) w w'):Looks w' cs b o L K E pv:=
 ⟨h.row.farS hf (fun c hc _ hh=>h.ne (Eq.trans (Eq.symm hc) hh)),h.ne,h.room,h.e0,Nat.lt_of_lt_of_le h.lt hf.size,(World.cell?_of_block (a:=⟨0,0,none⟩) (hf.block 0 (World.block_lt_of_cell? _ _ h.g) (fun e=>h.e0 e.symm))).trans h.g⟩
theorem Looks.keep {w w':World} {cs:List Nat} {b o L K E:Nat} {pv:Value} (h:Looks w cs b o L K E pv) (hb:Below w.heap.size w w'):Looks w' cs b o L K E pv:=h.far (Far.of_below hb)
theorem eyeNumber_any (cs:List Nat) (b o L K E at0:Nat) (pv:Value) (ok:Bool) (w:World) (h:Looks w cs b o L K E pv) (hE:EyeAt w E b o L K at0 (eyeErr (.iface 218 pv) ok)) (hat:at0≤L) :
  Calls Tryz.prog 30 #[.pointer (some ⟨E,0,none⟩)] w fun e w'=>∃ (v at1:Nat) (ok1:Bool),e=.returned (.int .i64 (v:Int))∧EyeAt w' E b o L K at1 (eyeErr (.iface 218 pv) ok1)∧Far (fun y=>y=E) w w'∧at1≤L∧EyeN cs at0 at1 ok ok1 v:=by
 cases ok with
 | true=>
  refine (eyeNumber_ok cs b o L K E at0 pv _ w h.row hE h.ne hat h.room h.e0 h.lt h.g).mono ?_
  rintro e w' ⟨v,at1,ok1,rfl,h1,h2,_,h3,h4⟩
  exact ⟨v,at1,ok1,rfl,h1,h2,h3,h4⟩
 | false=>
  refine (eyeNumber_not b o L K E at0 pv w hE h.e0 h.g).mono ?_
  rintro e w' ⟨rfl,h1,h2⟩
  exact ⟨0,at0,false,rfl,h1,h2,hat,Or.inr ⟨rfl,rfl,fun hh=>by cases hh⟩⟩
theorem eyeMatrix_any (cs:List Nat) (b o L K E at0:Nat) (pv:Value) (ok:Bool) (w:World) (h:Looks w cs b o L K E pv) (hE:EyeAt w E b o L K at0 (eyeErr (.iface 218 pv) ok)) (hat:at0≤L) :
  Calls Tryz.prog 31 #[.pointer (some ⟨E,0,none⟩)] w fun e w'=>∃ (v:Value) (m:Mat) (at1:Nat) (ok1:Bool),e=.returned v∧MatNew w.heap.size w' v m∧EyeAt w' E b o L K at1 (eyeErr (.iface 218 pv) ok1)∧Far (fun y=>y=E) w w'∧at1≤L∧EyeM cs at0 at1 ok ok1 m:=by
 obtain ⟨j0,hj,hy0,hy1,hy2⟩:=info_parts info_int'
 obtain ⟨M,hM⟩:∃ M,w.heap.size=M:=⟨_,rfl⟩
 have hEM:E<M:=by have:=hE.lt;omega
 obtain ⟨om,hom⟩:∃ om:Obj,Obj.cells #[.int .i64 0,.int .i64 0,.slice none 0 0] 41=om:=⟨_,rfl⟩
 obtain ⟨w0,hw0⟩:∃ w0,w.alloc om=w0:=⟨_,rfl⟩
 have hb0:Below w.heap.size w w0:=by rw [← hw0];exact Below.x0
 have hM0:Box w0 M [.int .i64 0,.int .i64 0,.slice none 0 0] 41:=by rw [← hw0,← hom,← hM];exact Box.new _ _ _
 have hE0:=hE.keep hb0
 have h0:=h.keep hb0
 have hf0:Far (fun y=>y=E) w w0:=Far.of_below hb0
 have HW0:=Lib.hid hw0
 have HOM:=Lib.hid hom
 have HMM:=Lib.hid hM
 clear hw0 hom hE hb0
 go_enter Tryz.func31,Tryz.ntmps31
 go_wp2_with fail
 rw [HOM.out,HW0.out]
 refine (eyeNumber_any cs b o L K E at0 pv ok w0 h0 hE0 hat).mono ?_
 rintro e w1 ⟨r,at1,ok1,rfl,hE1,hf1,ha1,hn1⟩
 have hM1:=hM0.farS hf1 (fun hh=>by omega)
 have h1:=h0.far hf1
 have HN1:=Lib.hid hn1
 have hr63:=hn1.small
 clear hM0 hE0 hn1 h0
 go_wp2_with fail
 refine (eyeNumber_any cs b o L K E at1 pv ok1 w1 h1 hE1 ha1).mono ?_
 rintro e w2 ⟨c,at2,ok2,rfl,hE2,hf2,ha2,hn2⟩
 have hM2:=hM1.farS hf2 (fun hh=>by omega)
 have h2:=h1.far hf2
 have HN2:=Lib.hid hn2
 have hc63:=hn2.small
 have hfw2:=(hf0.trans hf1).trans hf2
 have d0:=hM2.cell 0
 have d1:=hM2.cell 1
 have f0:=hM2.thawed 0
 have f1:=hM2.thawed 1
 obtain ⟨w3,hw3⟩:∃ w3,(w2.setCell ⟨M,0,none⟩ (.int .i64 (r:Int))).setCell ⟨M,1,none⟩ (.int .i64 (c:Int))=w3:=⟨_,rfl⟩
 have hM3:Box w3 M [.int .i64 (r:Int),.int .i64 (c:Int),.slice none 0 0] 41:=by rw [← hw3];exact (hM2.set 0 (.int .i64 (r:Int))).set 1 (.int .i64 (c:Int))
 have hE3:EyeAt w3 E b o L K at2 (eyeErr (.iface 218 pv) ok2):=by rw [← hw3];exact (Box.far hE2 (by dsimp only;omega) _).far (by dsimp only;omega) _
 have hf3:Far (fun y=>y=E) w w3:=by rw [← hw3];exact (hfw2.st (fun hh=>by dsimp only at hh;omega) _).st (fun hh=>by dsimp only at hh;omega) _
 have hff3:Far (fun y=>y=M) w2 w3:=by rw [← hw3];exact ((Far.refl (fun y=>y=M) w2).st (fun _=>rfl) _).st (fun _=>rfl) _
 have HW3:=Lib.hid hw3
 clear hw3 hM1 hE1 h1 hn2 hfw2 hf0 hf1 hf2
 have h3:=h.far hf3
 have hz3:M<w3.heap.size:=hM3.lt
 go_upto_region 2 with (fail)
 rw [HW3.out]
 have m0:=hM3.cell 0
 have m1:=hM3.cell 1
 by_cases hbig:24<r∨12<c
 ·have HEM:=Lib.hid (EyeM.big (m:=⟨r,c,[]⟩) HN1.out HN2.out hbig)
  have g3:=h3.g
  have c1:=hE3.cell 1
  have q1:=hE3.thawed 1
  obtain ⟨w4,hw4⟩:∃ w4,w3.setCell ⟨E,1,none⟩ (.iface 218 pv)=w4:=⟨_,rfl⟩
  have hE4:EyeAt w4 E b o L K at2 (eyeErr (.iface 218 pv) false):=by rw [← hw4];exact hE3.set 1 _
  have hM4:Box w4 M [.int .i64 (r:Int),.int .i64 (c:Int),.slice none 0 0] 41:=by rw [← hw4];exact hM3.far (by dsimp only;omega) _
  have hf4:Far (fun y=>y=E) w w4:=by rw [← hw4];exact hf3.st (fun _=>rfl) _
  have k0:=hM4.cell 0
  have k1:=hM4.cell 1
  have k2:=hM4.cell 2
  have t0:=hM4.thawed 0
  have t1:=hM4.thawed 1
  have t2:=hM4.thawed 2
  have bz:=((hM4.set 0 (.int .i64 (r:Int))).set 1 (.int .i64 (c:Int))).set 2 (.slice none 0 0)
  have z0:=bz.cell 0
  have z1:=bz.cell 1
  have z2:=bz.cell 2
  have hEz:EyeAt (((w4.setCell ⟨M,0,none⟩ (.int .i64 (r:Int))).setCell ⟨M,1,none⟩ (.int .i64 (c:Int))).setCell ⟨M,2,none⟩ (.slice none 0 0)) E b o L K at2 (eyeErr (.iface 218 pv) false):=((Box.far hE4 (by dsimp only;omega) _).far (by dsimp only;omega) _).far (by dsimp only;omega) _
  have hfz:Far (fun y=>y=E) w (((w4.setCell ⟨M,0,none⟩ (.int .i64 (r:Int))).setCell ⟨M,1,none⟩ (.int .i64 (c:Int))).setCell ⟨M,2,none⟩ (.slice none 0 0)):=((hf4.st (fun hh=>by dsimp only at hh;omega) _).st (fun hh=>by dsimp only at hh;omega) _).st (fun hh=>by dsimp only at hh;omega) _
  have HEZ:=Lib.hid hEz
  have HFZ:=Lib.hid hfz
  have HW4:=Lib.hid hw4
  clear hEz hfz bz hE4 hM2 hE2 d0 d1 f0 f1
  by_cases hb1:24<r
  ·have e1:((r:Int) > 24)=True:=eq_true (by omega)
   clear hbig
   go_wp2
   refine bodyPost_ret (v:=.agg #[.int .i64 (r:Int),.int .i64 (c:Int),.slice none 0 0]) (by simp [results,Tryz.results31,go_sem,z0,z1,z2]) rfl ⟨_,⟨r,c,[]⟩,at2,false,rfl,MatNew.mk (b:=0) (off:=0) (fun hh=>absurd hh (Nat.lt_irrefl _)) ((RowAt.nil Form.int _ anyB).ints),HEZ.out,HFZ.out,ha2,HEM.out⟩
  ·have e1:((r:Int) > 24)=False:=eq_false (by omega)
   have e2:((c:Int) > 12)=True:=eq_true (by omega)
   clear hbig
   go_wp2
   refine bodyPost_ret (v:=.agg #[.int .i64 (r:Int),.int .i64 (c:Int),.slice none 0 0]) (by simp [results,Tryz.results31,go_sem,z0,z1,z2]) rfl ⟨_,⟨r,c,[]⟩,at2,false,rfl,MatNew.mk (b:=0) (off:=0) (fun hh=>absurd hh (Nat.lt_irrefl _)) ((RowAt.nil Form.int _ anyB).ints),HEZ.out,HFZ.out,ha2,HEM.out⟩
 ·have e1:((r:Int) > 24)=False:=eq_false (by omega)
  have e2:((c:Int) > 12)=False:=eq_false (by omega)
  obtain ⟨P,hP⟩:∃ P,r*c=P:=⟨_,rfl⟩
  have hPI:(r:Int)*(c:Int)=(P:Int):=by rw [← hP];push_cast;rfl
  have hPb:P≤288:=by
   have h1:r*c≤24*12:=Nat.mul_le_mul (by omega) (by omega)
   omega
  have hmul:wrap64 ((r:Int)*(c:Int))=(P:Int):=by rw [hPI];unfold wrap64;omega
  have HNB:=Lib.hid hbig
  have HP:=Lib.hid hP
  clear hbig hP hPI hM2 hE2 d0 d1 f0 f1 h3
  go_wp2
  rw [hmul]
  go_loopw [28] (fun i wr=>∃ (t at7:Nat) (ok7:Bool) (vs:Value) (cells:List Nat),t≤P∧i=.int .i64 t∧at7≤L∧cells.length=t∧Box wr M [.int .i64 (r:Int),.int .i64 (c:Int),vs] 41∧OwnRow Form.int 3 wr (M+1) noK vs (cells.map zagOf)∧EyeAt wr E b o L K at7 (eyeErr (.iface 218 pv) ok7)∧Far (fun y=>y=E) w wr∧Hid (EyeC cs t at2 at7 ok2 ok7 cells)) (fun i _=>P - (intOf i).toNat)
  case atStart=>exact ⟨0,at2,ok2,_,[],Nat.zero_le _,rfl,ha2,rfl,hM3,OwnRow.nil _ _ _ _ _,hE3,hf3,Lib.hid (EyeC.start cs at2 ok2)⟩
  case round=>
   clear hM3 hE3 hf3 m0 m1 hz3 hff3 hmul e1 e2 h2
   obtain ⟨t,at7,ok7,vs,cells,ht,rfl,ha7,hcl,hMr,hown,hEr,hfr,HC⟩:=hrel
   by_cases hlt:t<P
   ·have HCL:Hid ((cells.map zagOf).length=t):=Lib.hid (by rw [List.length_map,hcl])
    have hbo:=hown.base_le
    have hMz:=hMr.lt
    go_wp2_with fail
    refine (eyeNumber_any cs b o L K E at7 pv ok7 wr (h.far hfr) hEr ha7).mono ?_
    rintro e w5 ⟨x,at8,ok8,rfl,hE5,hf5,ha8,hn5⟩
    have hM5:=hMr.farS hf5 (fun hh=>by omega)
    have hown5:=hown.farS hf5 (fun k hk hh=>by have h1:=(hbo k hk).1;have h2:k=E:=hh;omega) (fun k hk _ _ _=>hk.elim)
    have hfr5:=hfr.trans hf5
    have hx63:=hn5.small
    have HC8:=Lib.hid (HC.out.step hn5)
    have hM5z:=hM5.lt
    have c2:=hM5.cell 2
    have hand:=i64_and_one x (by omega)
    obtain ⟨q,hq⟩:∃ q,x / 2=q:=⟨_,rfl⟩
    have hqd:(x:Int) / 2=(q:Int):=by omega
    clear hMr hown hEr hfr hf5 hn5 hMz HC
    by_cases hodd:x % 2=1
    ·have HZ:Hid (zagOf x = -1 - (q:Int)):=Lib.hid (by unfold zagOf;rw [if_pos hodd,hq];omega)
     have e1:=i64_not' (q:Int) (by omega) (by omega)
     rw [hodd] at hand
     clear hodd hq
     go_wp2_with (at_builtin;go_must (refine wpList_push rfl (.tmp 33) (.tmp 40) 29 rfl Form.int (M+1) noK 3 j0 (.int .i64 0) 8 Tryz.underlying29 hj hy0 hy1 hy2 rfl (by decide) vs (cells.map zagOf) rfl (hown5.keep ((Below.refl _ _).alloc (Nat.le_refl _) _)) w5.heap.size 1 [.int .i64 (-1 - (q:Int))] 3 (-1 - (q:Int)) rfl (Box.new _ _ _) rfl (by rw [HCL.out];omega) (by rw [HCL.out];unfold maxLen;omega) (by simp;omega) _ rfl ?_))
     intro g cap wG hownG hgrow hlies hgs
     have hbo5:=hown5.base_le
     have hBG:=Box.grown (hM5.alloc _) hgrow (fun e=>by have:=(hbo5 _ e.symm).1;omega)
     have hEG:=Box.grown (Box.alloc hE5 _) hgrow (fun e=>by have:=(hbo5 _ e.symm).1;omega)
     have hfG:=(hfr5.al _).grown hgrow (fun k hk hl=>by have:=(hbo5 k hk).1;omega)
     have cG:=hBG.cell 2
     have fG:=hBG.thawed 2
     have hgB:=(hownG.base_le g rfl).1
     try rw [HCL.out] at hownG
     have hBF:Box (wG.setCell ⟨M,2,none⟩ (.slice (some ⟨g,0,none⟩) (t+1) cap)) M [.int .i64 (r:Int),.int .i64 (c:Int),.slice (some ⟨g,0,none⟩) (t+1) cap] 41:=hBG.set 2 _
     have hEF:EyeAt (wG.setCell ⟨M,2,none⟩ (.slice (some ⟨g,0,none⟩) (t+1) cap)) E b o L K at8 (eyeErr (.iface 218 pv) ok8):=Box.far hEG (by dsimp only;omega) _
     have hownF:OwnRow Form.int 3 (wG.setCell ⟨M,2,none⟩ (.slice (some ⟨g,0,none⟩) (t+1) cap)) (M+1) noK (.slice (some ⟨g,0,none⟩) (t+1) cap) ((cells++[x]).map zagOf):=by
      rw [List.map_append,List.map_cons,List.map_nil,HZ.out]
      exact hownG.set (fun e=>by simp [Value.ownBlock] at e;omega) (fun hh=>hh.elim) _
     have hfF:Far (fun y=>y=E) w (wG.setCell ⟨M,2,none⟩ (.slice (some ⟨g,0,none⟩) (t+1) cap)):=hfG.st (fun hh=>by dsimp only at hh;omega) _
     have HALL:=Lib.hid (And.intro hBF (And.intro hownF (And.intro hEF hfF)))
     have HGT:Hid ((cells.map zagOf).length+1=t+1):=Lib.hid (by rw [HCL.out])
     clear hBF hownF hEF hfF hgB hownG hgrow hlies hgs hBG hEG hfG hM5 hown5 hE5 hfr5 hbo5 hM5z c2
     try rw [HGT.out]
     go_wp2
     go_roundw
     case rel=>exact ⟨t+1,at8,ok8,_,cells++[x],by omega,by go_num,ha8,by rw [List.length_append,hcl];rfl,HALL.out.1,HALL.out.2.1,HALL.out.2.2.1,HALL.out.2.2.2,HC8⟩
     case measure=>simp [intOf];omega
    ·have h0:x % 2=0:=by omega
     have HZ:Hid (zagOf x=(q:Int)):=Lib.hid (by unfold zagOf;rw [if_neg hodd,hq])
     have e1:=i64_xor_zero (q:Int) (by omega) (by omega)
     rw [h0] at hand
     clear hodd h0 hq
     go_wp2_with (at_builtin;go_must (refine wpList_push rfl (.tmp 33) (.tmp 40) 29 rfl Form.int (M+1) noK 3 j0 (.int .i64 0) 8 Tryz.underlying29 hj hy0 hy1 hy2 rfl (by decide) vs (cells.map zagOf) rfl (hown5.keep ((Below.refl _ _).alloc (Nat.le_refl _) _)) w5.heap.size 1 [.int .i64 ((q:Int))] 3 ((q:Int)) rfl (Box.new _ _ _) rfl (by rw [HCL.out];omega) (by rw [HCL.out];unfold maxLen;omega) (by simp;omega) _ rfl ?_))
     intro g cap wG hownG hgrow hlies hgs
     have hbo5:=hown5.base_le
     have hBG:=Box.grown (hM5.alloc _) hgrow (fun e=>by have:=(hbo5 _ e.symm).1;omega)
     have hEG:=Box.grown (Box.alloc hE5 _) hgrow (fun e=>by have:=(hbo5 _ e.symm).1;omega)
     have hfG:=(hfr5.al _).grown hgrow (fun k hk hl=>by have:=(hbo5 k hk).1;omega)
     have cG:=hBG.cell 2
     have fG:=hBG.thawed 2
     have hgB:=(hownG.base_le g rfl).1
     try rw [HCL.out] at hownG
     have hBF:Box (wG.setCell ⟨M,2,none⟩ (.slice (some ⟨g,0,none⟩) (t+1) cap)) M [.int .i64 (r:Int),.int .i64 (c:Int),.slice (some ⟨g,0,none⟩) (t+1) cap] 41:=hBG.set 2 _
     have hEF:EyeAt (wG.setCell ⟨M,2,none⟩ (.slice (some ⟨g,0,none⟩) (t+1) cap)) E b o L K at8 (eyeErr (.iface 218 pv) ok8):=Box.far hEG (by dsimp only;omega) _
     have hownF:OwnRow Form.int 3 (wG.setCell ⟨M,2,none⟩ (.slice (some ⟨g,0,none⟩) (t+1) cap)) (M+1) noK (.slice (some ⟨g,0,none⟩) (t+1) cap) ((cells++[x]).map zagOf):=by
      rw [List.map_append,List.map_cons,List.map_nil,HZ.out]
      exact hownG.set (fun e=>by simp [Value.ownBlock] at e;omega) (fun hh=>hh.elim) _
     have hfF:Far (fun y=>y=E) w (wG.setCell ⟨M,2,none⟩ (.slice (some ⟨g,0,none⟩) (t+1) cap)):=hfG.st (fun hh=>by dsimp only at hh;omega) _
     have HALL:=Lib.hid (And.intro hBF (And.intro hownF (And.intro hEF hfF)))
     have HGT:Hid ((cells.map zagOf).length+1=t+1):=Lib.hid (by rw [HCL.out])
     clear hBF hownF hEF hfF hgB hownG hgrow hlies hgs hBG hEG hfG hM5 hown5 hE5 hfr5 hbo5 hM5z c2
     try rw [HGT.out]
     go_wp2
     go_roundw
     case rel=>exact ⟨t+1,at8,ok8,_,cells++[x],by omega,by go_num,ha8,by rw [List.length_append,hcl];rfl,HALL.out.1,HALL.out.2.1,HALL.out.2.2.1,HALL.out.2.2.2,HC8⟩
     case measure=>simp [intOf];omega
   ·obtain rfl:P=t:=by omega
    have hml:(cells.map zagOf).length=P:=by rw [List.length_map,hcl]
    obtain ⟨av,cv,bv,hvs,hbv,hrw⟩:=hown.row (G:=anyB) (fun _ _ _=>trivial) (fun _ _=>trivial)
    rw [hml] at hvs hrw hbv
    subst hvs
    have hiv:=hrw.ints
    have HEM:=Lib.hid (EyeM.mk HN1.out HN2.out HNB.out (by rw [HP.out];exact HC.out))
    have hMz:=hMr.lt
    have k0:=hMr.cell 0
    have k1:=hMr.cell 1
    have k2:=hMr.cell 2
    have t0:=hMr.thawed 0
    have t1:=hMr.thawed 1
    have t2:=hMr.thawed 2
    have bz:=((hMr.set 0 (.int .i64 (r:Int))).set 1 (.int .i64 (c:Int))).set 2 (.slice av P cv)
    have z0:=bz.cell 0
    have z1:=bz.cell 1
    have z2:=bz.cell 2
    have hEz:EyeAt (((wr.setCell ⟨M,0,none⟩ (.int .i64 (r:Int))).setCell ⟨M,1,none⟩ (.int .i64 (c:Int))).setCell ⟨M,2,none⟩ (.slice av P cv)) E b o L K at7 (eyeErr (.iface 218 pv) ok7):=((Box.far hEr (by dsimp only;omega) _).far (by dsimp only;omega) _).far (by dsimp only;omega) _
    have hfz:Far (fun y=>y=E) w (((wr.setCell ⟨M,0,none⟩ (.int .i64 (r:Int))).setCell ⟨M,1,none⟩ (.int .i64 (c:Int))).setCell ⟨M,2,none⟩ (.slice av P cv)):=((hfr.st (fun hh=>by dsimp only at hh;omega) _).st (fun hh=>by dsimp only at hh;omega) _).st (fun hh=>by dsimp only at hh;omega) _
    have hfm:Far (fun y=>y=M) wr (((wr.setCell ⟨M,0,none⟩ (.int .i64 (r:Int))).setCell ⟨M,1,none⟩ (.int .i64 (c:Int))).setCell ⟨M,2,none⟩ (.slice av P cv)):=(((Far.refl (fun y=>y=M) wr).st (fun _=>rfl) _).st (fun _=>rfl) _).st (fun _=>rfl) _
    have hiz:=ints_farS hiv hfm (fun h0 hh=>by have h1:=hbv h0;have h2:bv=M:=hh;omega)
    have HIZ:=Lib.hid hiz
    have HEZ:=Lib.hid hEz
    have HFZ:=Lib.hid hfz
    clear hEz hfz bz hfm hiz hiv hrw hown hEr hfr
    go_wp2
    refine bodyPost_ret (v:=.agg #[.int .i64 (r:Int),.int .i64 (c:Int),.slice av P cv]) (by simp [results,Tryz.results31,go_sem,z0,z1,z2]) rfl ⟨_,⟨r,c,cells.map zagOf⟩,at7,ok7,rfl,MatNew.mk (b:=bv) (off:=0) (fun hh=>by have:=hbv hh;omega) HIZ.out,HEZ.out,HFZ.out,ha7,HEM.out⟩
end Go.Proofs.YtchngeagnlngaaaGreatDoor
end
section
set_option maxRecDepth 100000
namespace Go.Proofs.YtchngeagnlngaaaGreatDoor
open Go.RowKit Gal Go.Extern.Stop Go.Stop Go.Extern
theorem isTypeOf (v:Value) (w:World):(Extern.ReflectliteType.typeOf #[.iface 218 v]).run Tryz.prog w=.ok (.iface 150 (.agg #[.pointer (some ⟨2,218,none⟩)])) w:=by kernel_rfl
theorem isComparable (w:World):((Extern.ReflectliteType.method fun t=>do Extern.Rtype.noPackHeld "Comparable" t;(fun a=>Value.bool a.comparable) <$> typeInfo t) #[.agg #[.pointer (some ⟨2,218,none⟩)]]).run Tryz.prog w=.ok (.bool true) w:=by kernel_rfl
theorem isMethodComparable (v:Value) (w:World):(Go.method 353 150 v "Comparable").run Tryz.prog w=.ok (134,v) w:=by kernel_rfl
theorem isComp:(Tryz.prog.info? 218).map (·.comparable)=some true:=by kernel_rfl
theorem isSize:(Tryz.prog.info? 241).map (·.size)=some 1:=by kernel_rfl
theorem is_same (a:Addr) (w:World) :
  Calls Tryz.prog 32 #[.iface 218 (.pointer (some a)),.iface 218 (.pointer (some a))] w fun e w'=>e=.returned (.bool true)∧w'=w:=by
 obtain ⟨i,hi,hcmp⟩:=Option.map_eq_some_iff.1 isComp
 obtain ⟨j,hj,hjs⟩:=Option.map_eq_some_iff.1 isSize
 have heq:=run_eql_iface_ptr_same (P:=Tryz.prog) w a Tryz.underlying33 Tryz.underlying218 hi hcmp hj
 have h8:=@run_callFunc_extern Tryz.prog 54 _ Extern.ReflectliteType.typeOf Tryz.func54 (by kernel_rfl) (by kernel_rfl) (by kernel_rfl) (by kernel_rfl)
 have h32:=@run_callFunc_extern Tryz.prog 134 _ (Extern.ReflectliteType.method fun t=>do Extern.Rtype.noPackHeld "Comparable" t;pure (.bool (← typeInfo t).comparable)) Tryz.func134 (by kernel_rfl) (by kernel_rfl) (by kernel_rfl) (by kernel_rfl)
 have tT:=isTypeOf
 have cT:=isComparable
 have mR:=isMethodComparable
 go_enter Tryz.func32,Tryz.ntmps32
 go_wp2
 refine wp_loop_rounds 1 ?_
 rw [rounds_succ]
 go_wp2
 go_ret
 exact ⟨rfl,rfl⟩
theorem is_nil (b:Addr) (w:World) :
  Calls Tryz.prog 32 #[.nilIface,.iface 218 (.pointer (some b))] w fun e w'=>e=.returned (.bool false)∧w'=w:=by
 have hn:=run_eql_iface_nil_left (P:=Tryz.prog) w 218 (.pointer (some b)) Tryz.underlying33
 go_enter Tryz.func32,Tryz.ntmps32
 go_wp2
 go_ret
 exact ⟨rfl,rfl⟩
end Go.Proofs.YtchngeagnlngaaaGreatDoor
end
section
namespace Gal
open Go Go.RowKit
theorem OwnRow.apart {α β:Type} {f:Form α} {g:Form β} {E E':TypeId} {w:World} {base base':Nat} {F G:Nat→Prop} {v u:Value} {xs:List α} {ys:List β} (h:OwnRow f E w base F v xs) (k:OwnRow g E' w base' G u ys) (hne:E≠E'):∀ b,v.ownBlock=some b→u.ownBlock≠some b:=by
 intro b hv hu
 obtain ⟨cs,⟨_,h1⟩,_⟩:=h.holds
 obtain ⟨ds,⟨_,h2⟩,_⟩:=k.holds
 rcases h1 with ⟨rfl,_⟩|⟨p,c,cur,rfl,_,hp,_⟩
 ·cases hv
 ·rcases h2 with ⟨rfl,_⟩|⟨q,c',cur',rfl,_,hq,_⟩
  ·cases hu
  ·simp [Value.ownBlock] at hv hu
   subst hv hu
   rw [hp] at hq
   simp at hq
   exact hne hq.2
end Gal
end
