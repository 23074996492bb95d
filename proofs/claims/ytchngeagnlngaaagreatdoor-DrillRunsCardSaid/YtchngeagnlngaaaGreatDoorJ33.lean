/- Texts joined: Train3. -/
import Derived.Test.YtchngeagnlngaaaGreatDoorJ26
import Derived.Test.YtchngeagnlngaaaGreatDoorJ29
import Derived.Test.YtchngeagnlngaaaGreatDoorJ32
import Derived.Test.YtchngeagnlngaaaGreatDoorJ24
set_option linter.unusedVariables false
set_option linter.unusedSimpArgs false
set_option linter.unusedSectionVars false
section
set_option maxRecDepth 100000
namespace Gal
open Go Go.RowKit
theorem fault_small {m:Mat} (h:m.fault=0):m.cells.length*8≤140737488355328:=by have:=(fault_bd h).2.2;omega
end Gal
namespace Go.Proofs.YtchngeagnlngaaaGreatDoor
open Go.RowKit Gal
set_option maxHeartbeats 8000000
def OneEnd (w:World) (s:Sta) (d:Bat) (p ln kp:Int) (e:Ending) (w':World):Prop:=
 ∃ v off,e=.returned (.tuple #[v,.int .i64 off,errV (oneFault s d p ln kp)])∧Below w.heap.size w w' ∧
  (oneFault s d p ln kp=0→off=oneOff s d p∧StaNew w.heap.size w' v (oneOf s d p ln kp))∧(oneFault s d p ln kp≠0→off=0∧v=.agg #[.slice none 0 0,.slice none 0 0,.int .i64 0])
section
variable (s:Sta) (d:Bat) (p ln kp:Int) (F G:Nat→Prop) (a0 a1:Option Addr) (n n1 k0 k1 b0 b1 o0 o1:Nat) (vb:Value) (w:World) (h0:RowAt Form.lay w F a0 n k0 b0 o0 s.N) (h1:RowAt Form.grd w G a1 n1 k1 b1 o1 s.V) (hd:BatAt w vb d)
include h0 h1 hd
theorem trainOne_bad (hf:oneFault s d p ln kp≠0) :
  Calls Tryz.prog 33 #[.agg #[.slice a0 n k0,.slice a1 n1 k1,.int .i64 s.steps],vb,.int .i64 p,.agg #[.int .i64 ln,.int .i64 kp]] w (OneEnd w s d p ln kp)
 := by
 obtain ⟨a2,n2,k2,b2,o2,a3,n3,k3,b3,o3,rfl,x0,x1⟩:=hd
 have HF:=Lib.hid hf
 have HE:Hid (errV (oneFault s d p ln kp)=.iface 36 (.int .i64 (oneFault s d p ln kp))):=Lib.hid (errV_err hf)
 clear hf
 go_enter Tryz.func33,Tryz.ntmps33
 go_wp2_with fail
 refine (trainParts_any s d p ln kp F G _ _ _ _ _ _ _ _ _ _ _ _ (h0.alloc _ |>.alloc _ |>.alloc _ |>.alloc _) (h1.alloc _ |>.alloc _ |>.alloc _ |>.alloc _) ⟨a2,n2,k2,b2,o2,a3,n3,k3,b3,o3,rfl,(x0.alloc _ |>.alloc _ |>.alloc _ |>.alloc _),(x1.alloc _ |>.alloc _ |>.alloc _ |>.alloc _)⟩).mono ?_
 rintro e w1 ⟨uP,rfl,hb1,_,huP⟩
 obtain rfl:=huP HF.out
 rw [HE.out]
 have B4:=((show Box _ w.heap.size [.slice a0 n k0,.slice a1 n1 k1,.int .i64 s.steps] 30 from Box.x0)).keep hb1
 have B4c:=B4.cell
 have B4f:=B4.thawed
 have B4z:=B4.lt
 have B4k:=lt_add B4z
 have B7:=((show Box _ (w.heap.size+1+1) [.int .i64 ln,.int .i64 kp] 28 from Box.x0)).keep hb1
 have B7c:=B7.cell
 have B7f:=B7.thawed
 have B7z:=B7.lt
 have B7k:=lt_add B7z
 have B8:=((show Box _ (w.heap.size+1+1+1) [.slice none 0 0,.slice none 0 0,.int .i64 0] 30 from Box.x0)).keep hb1
 have B8c:=B8.cell
 have B8f:=B8.thawed
 have B8z:=B8.lt
 have B8k:=lt_add B8z
 have bz:=(((B8.set 0 (.slice none 0 0)).set 1 (.slice none 0 0)).set 2 (.int .i64 0))
 have z0:=bz.cell 0
 have z1:=bz.cell 1
 have z2:=bz.cell 2
 have hbw:Below w.heap.size w w1:=(Below.x1 hb1)
 have hbe:Below w.heap.size w (((w1.setCell ⟨w.heap.size+1+1+1,0,none⟩ (.slice none 0 0)).setCell ⟨w.heap.size+1+1+1,1,none⟩ (.slice none 0 0)).setCell ⟨w.heap.size+1+1+1,2,none⟩ (.int .i64 0)):=((hbw.setCell (by dsimp only;omega) _).setCell (by dsimp only;omega) _).setCell (by dsimp only;omega) _
 have HBE:=Lib.hid hbe
 clear huP h0 h1 x0 x1 bz hbe hb1 hbw
 go_wp2
 refine bodyPost_ret (v:=.tuple #[.agg #[.slice none 0 0,.slice none 0 0,.int .i64 0],.int .i64 0,.iface 36 (.int .i64 (oneFault s d p ln kp))]) (by simp [results,Tryz.results33,go_sem,z0,z1,z2]) rfl ⟨_,_,by rw [HE.out],HBE.out,fun h=>absurd h HF.out,fun _=>⟨rfl,rfl⟩⟩
theorem trainOne_ok (hf:oneFault s d p ln kp=0) :
  Calls Tryz.prog 33 #[.agg #[.slice a0 n k0,.slice a1 n1 k1,.int .i64 s.steps],vb,.int .i64 p,.agg #[.int .i64 ln,.int .i64 kp]] w (OneEnd w s d p ln kp)
 := by
 obtain ⟨a2,n2,k2,b2,o2,a3,n3,k3,b3,o3,rfl,x0,x1⟩:=hd
 have HF:=Lib.hid hf
 have HE:Hid (errV (oneFault s d p ln kp)=.nilIface):=Lib.hid (errV_nil hf)
 obtain ⟨f1,f2,_⟩:=oneFault_ok hf
 obtain ⟨hn12,hst0,hst1,hlf,hvl,hvf⟩:=Sta.fault_ok f1
 have hl0:=h0.len
 have hl1:=h1.len
 obtain rfl:n1=n:=by omega
 have HPT:=Lib.hid (one_parts hf)
 have HBY:Hid (∀ k,k<p.toNat→gatherFault (byTo s.N d (sizesIn d p) k) (partTurn s.N (partOf d (sizesIn d p) k))=0):=Lib.hid (fun k hk=>byTo_gather hf hk)
 have HBL:Hid (∀ k,k≤p.toNat→(byTo s.N d (sizesIn d p) k).length=n1):=Lib.hid (fun k hk=>by rw [(byTo_fits hf k hk).1,hl0])
 have HST:=Lib.hid (one_step hf)
 have HL0:=Lib.hid hl0
 have HSS:=Lib.hid (And.intro hst0 hst1)
 have HZM:Hid (∀ i,i<n1→(lx s.N i).W.cells.length*8≤140737488355328∧(lx s.N i).B.cells.length*8≤140737488355328):=Lib.hid (fun i hi=>by
  obtain ⟨_,_,e3,e4,_⟩:=Lay.fault_ok (hlf i (by omega))
  exact ⟨fault_small e3,fault_small e4⟩)
 have hn:n1≤12:=by omega
 obtain ⟨S,hS⟩:∃ S,sizesIn d p=S:=⟨_,rfl⟩
 obtain ⟨P,hP⟩:∃ P,p.toNat=P:=⟨_,rfl⟩
 have HOF:Hid (oneOff s d p=offTo s.N d S P):=Lib.hid (by unfold oneOff;rw [hS,hP])
 have HON:Hid (oneOf s d p ln kp=⟨stepLays s.N s.V (byTo s.N d S P) ln kp s.N.length,stepGrds s.N s.V (byTo s.N d S P) kp s.N.length,s.steps+1⟩):=Lib.hid (by unfold oneOf;rw [hS,hP])
 rw [hS,hP] at HPT HBY HBL HST
 have HSP:=Lib.hid (And.intro hS hP)
 have hPb:P≤12:=by have:=(splitFault_ok f2).2.2.1;omega
 clear hf f1 f2 hlf hvl hvf hn12 hl0 hl1 hst0 hst1 hS hP
 go_enter Tryz.func33,Tryz.ntmps33
 go_wp2_with fail
 refine (trainParts_any s d p ln kp F G _ _ _ _ _ _ _ _ _ _ _ _ (h0.alloc _ |>.alloc _ |>.alloc _ |>.alloc _) (h1.alloc _ |>.alloc _ |>.alloc _ |>.alloc _) ⟨a2,n2,k2,b2,o2,a3,n3,k3,b3,o3,rfl,(x0.alloc _ |>.alloc _ |>.alloc _ |>.alloc _),(x1.alloc _ |>.alloc _ |>.alloc _ |>.alloc _)⟩).mono ?_
 rintro e w1 ⟨uP,rfl,hb1,huP,_⟩
 obtain ⟨aL,kL,bL,rfl,rL⟩:=huP HF.out
 rw [HSP.out.1,HSP.out.2] at rL
 rw [HE.out,HSP.out.2]
 have B4:=((show Box _ w.heap.size [.slice a0 n1 k0,.slice a1 n1 k1,.int .i64 s.steps] 30 from Box.x0)).keep hb1
 have B4c:=B4.cell
 have B4f:=B4.thawed
 have B4z:=B4.lt
 have B4k:=lt_add B4z
 have B7:=((show Box _ (w.heap.size+1+1) [.int .i64 ln,.int .i64 kp] 28 from Box.x0)).keep hb1
 have B7c:=B7.cell
 have B7f:=B7.thawed
 have B7z:=B7.lt
 have B7k:=lt_add B7z
 have B8:=((show Box _ (w.heap.size+1+1+1) [.slice none 0 0,.slice none 0 0,.int .i64 0] 30 from Box.x0)).keep hb1
 have B8c:=B8.cell
 have B8f:=B8.thawed
 have B8z:=B8.lt
 have B8k:=lt_add B8z
 have hkw1:Below w.heap.size w w1:=(Below.x1 hb1)
 replace h0:=h0.keep hkw1
 replace h1:=h1.keep hkw1
 have hsw1:=hkw1.size
 clear huP x0 x1
 go_wp2_with fail
 refine (netZero_any s.N F _ _ _ _ _ _ h0 HZM.out (by omega)).mono ?_
 rintro e w2 ⟨aZ,kZ,bZ,rfl,hb2,rZ⟩
 have hkw2:Below w1.heap.size w1 w2:=(Below.x1 hb2)
 replace B4:=B4.keep hkw2
 replace B4c:=B4.cell
 replace B4f:=B4.thawed
 replace B4z:=B4.lt
 replace B4k:=lt_add B4z
 replace B7:=B7.keep hkw2
 replace B7c:=B7.cell
 replace B7f:=B7.thawed
 replace B7z:=B7.lt
 replace B7k:=lt_add B7z
 replace B8:=B8.keep hkw2
 replace B8c:=B8.cell
 replace B8f:=B8.thawed
 replace B8z:=B8.lt
 replace B8k:=lt_add B8z
 replace h0:=h0.keep hkw2
 replace h1:=h1.keep hkw2
 replace rL:=rL.keep hkw2
 have hsw2:=hkw2.size
 have hbw2:Below w.heap.size w w2:=(Below.x2 hb2 hb1)
 have rZ9:RowAt Form.grd w2 (newB w.heap.size) aZ n1 kZ bZ 0 (byTo s.N d S 0):=rZ.wide (fun c hc _=>Nat.le_trans hkw1.size hc)
 have hwz:=hbw2.size
 clear rZ hb1 hb2
 have c40:=B4.cell 0
 go_wp2
 go_loopw [13,14,44] (fun u x i wr=>∃ (t:Nat) (aB:Option Addr) (kB bB:Nat),t≤P∧u=.slice aB n1 kB∧x=.int .i64 (offTo s.N d S t)∧i=.int .i64 t∧RowAt Form.grd wr (newB w.heap.size) aB n1 kB bB 0 (byTo s.N d S t)∧Below w2.heap.size w2 wr) (fun _ _ i _=>P - (intOf i).toNat)
 case atStart=>exact ⟨0,aZ,kZ,bZ,Nat.zero_le _,rfl,rfl,rfl,rZ9,Below.refl _ _⟩
 case round=>
  clear rZ9 c40
  obtain ⟨t,aB,kB,bB,ht,rfl,rfl,rfl,rB,hk⟩:=hrel
  have hbr:Below w.heap.size w wr:=hbw2.trans (hk.mono hwz)
  replace B4:=B4.keep hk
  replace B7:=B7.keep hk
  replace B8:=B8.keep hk
  replace h0:=h0.keep hk
  replace h1:=h1.keep hk
  replace rL:=rL.keep hk
  have B4c:=B4.cell
  have B4z:=B4.lt
  clear B7c B7f B7z B7k B8c B8f B8z B8k B4f B4k
  by_cases hlt:t<P
  ·have hltI:(t:Int)<(P:Int):=by omega
   obtain ⟨a4,n4,k4,b4,o4,a5,n5,k5,b5,o5,d0,d1,d2,d3,d4,d5,y1,y2⟩:=bat_cells (i:=t) (d:=partOf d S t) rL (by
    unfold partsTo
    rw [List.getElem?_map,List.getElem?_range hlt]
    rfl)
   simp only [Nat.zero_add] at d0 d1 d2 d3 d4 d5
   have hpk:=HPT.out t hlt
   have hby:=HBY.out t hlt
   have HBN:Hid (byTo s.N d S (t+1)=gatherTo (byTo s.N d S t) (partTurn s.N (partOf d S t)) n1):=Lib.hid (by
    show gatherTo (byTo s.N d S t) (partTurn s.N (partOf d S t)) (byTo s.N d S t).length=_
    rw [HBL.out t ht])
   have HON1:Hid (offTo s.N d S (t+1)=add (offTo s.N d S t) (partOff s.N (partOf d S t))):=Lib.hid rfl
   obtain ⟨dt,hdt⟩:∃ dt,partOf d S t=dt:=⟨_,rfl⟩
   rw [hdt] at d0 d1 d3 d4 y1 y2 hpk hby HBN HON1
   have hpt:partTurn s.N dt=bDs s.N (netOuts s.N dt.I n1) (partBack s.N dt) n1:=by unfold partTurn sawOne;rw [HL0.out]
   rw [hpt] at hby HBN
   have HPK:=Lib.hid hpk
   have HBY1:=Lib.hid hby
   have hbk:netBackFault s.N (netOuts s.N dt.I n1) (partBack s.N dt)=0:=by have:=hpk.back;unfold sawOne at this;rwa [HL0.out] at this
   have HBK:=Lib.hid hbk
   have HEG:Hid (errV (netGoFault s.N dt.I)=.nilIface):=Lib.hid (errV_nil hpk.go)
   have HEB:Hid (errV (netBackFault s.N (netOuts s.N dt.I n1) (partBack s.N dt))=.nilIface):=Lib.hid (errV_nil hbk)
   have HEH:Hid (errV (gatherFault (byTo s.N d S t) (bDs s.N (netOuts s.N dt.I n1) (partBack s.N dt) n1))=.nilIface):=Lib.hid (errV_nil hby)
   have HGL:Hid ((partBack s.N dt).cells.length*8≤140737488355328):=Lib.hid (fault_small (lossBack_fault (lossFault_ok hpk.loss).1))
   have HMD:Hid ((netOuts s.N dt.I n1)[n1]?=some (midOf s.N dt.I)):=Lib.hid (by rw [netOuts_last];unfold midOf;rw [HL0.out])
   obtain rfl:=rL.ptr (by omega)
   clear hdt hpt hpk hby hbk rL
   go_wp2_with fail
   refine (netGo_any s.N F _ _ _ _ _ dt.I _ _ (h0.alloc _) (MatAt.mk (y1.alloc _))).mono ?_
   rintro e w11 ⟨uG,rfl,hb11,huG,_⟩
   obtain ⟨aG,kG,bG,rfl,rG⟩:=huG HPK.out.go
   rw [HEG.out]
   have B16:=(Box.new wr [.int .i64 dt.I.rows,.int .i64 dt.I.cols,.slice a4 n4 k4,.int .i64 dt.W.rows,.int .i64 dt.W.cols,.slice a5 n5 k5] 43).keep hb11
   have B16c:=B16.cell
   have B16f:=B16.thawed
   have B16z:=B16.lt
   have B16k:=lt_add B16z
   have hkw11:Below wr.heap.size wr w11:=(Below.x1 hb11)
   replace B4:=B4.keep hkw11
   replace B4c:=B4.cell
   replace B4f:=B4.thawed
   replace B4z:=B4.lt
   replace B4k:=lt_add B4z
   replace B7:=B7.keep hkw11
   replace B7c:=B7.cell
   replace B7f:=B7.thawed
   replace B7z:=B7.lt
   replace B7k:=lt_add B7z
   replace B8:=B8.keep hkw11
   replace B8c:=B8.cell
   replace B8f:=B8.thawed
   replace B8z:=B8.lt
   replace B8k:=lt_add B8z
   replace h0:=h0.keep hkw11
   replace y2:=y2.keep hkw11
   replace rB:=rB.keep hkw11
   have hsw11:=hkw11.size
   clear huG y1 d0 d1 d2 d3 d4 d5
   obtain ⟨a6,n6,k6,b6,o6,hcm,xg⟩:=mats_cells (i:=n1) rG (Nat.lt_succ_self _)
   have hmx:mx (netOuts s.N dt.I n1) n1=midOf s.N dt.I:=by unfold mx;rw [HMD.out];rfl
   rw [hmx] at hcm xg
   rw [Nat.zero_add] at hcm
   obtain rfl:=rG.ptr (Nat.succ_pos _)
   have m0:=hcm.c0
   have m1:=hcm.c1
   have m2:=hcm.c2
   have w0':=B16.cell 3
   have pI:(n1:Int)<(n1:Int)+1:=by omega
   have pI0:(0:Int)≤(n1:Int):=by omega
   clear hcm hmx
   go_wp2_with fail
   refine (lossOf_ok (midOf s.N dt.I) dt.W _ _ _ (MatAt.mk (xg.alloc _)) (MatAt.mk (y2.alloc _)) HPK.out.loss).mono ?_
   rintro e w12 ⟨rfl,hb12⟩
   have B19:=(Box.new w11 [.int .i64 (midOf s.N dt.I).rows,.int .i64 (midOf s.N dt.I).cols,.slice a6 n6 k6] 41).keep hb12
   have B19c:=B19.cell
   have B19f:=B19.thawed
   have B19z:=B19.lt
   have B19k:=lt_add B19z
   have hkw12:Below w11.heap.size w11 w12:=(Below.x1 hb12)
   replace B4:=B4.keep hkw12
   replace B4c:=B4.cell
   replace B4f:=B4.thawed
   replace B4z:=B4.lt
   replace B4k:=lt_add B4z
   replace B7:=B7.keep hkw12
   replace B7c:=B7.cell
   replace B7f:=B7.thawed
   replace B7z:=B7.lt
   replace B7k:=lt_add B7z
   replace B8:=B8.keep hkw12
   replace B8c:=B8.cell
   replace B8f:=B8.thawed
   replace B8z:=B8.lt
   replace B8k:=lt_add B8z
   replace B16:=B16.keep hkw12
   replace B16c:=B16.cell
   replace B16f:=B16.thawed
   replace B16z:=B16.lt
   replace B16k:=lt_add B16z
   replace h0:=h0.keep hkw12
   replace y2:=y2.keep hkw12
   replace rB:=rB.keep hkw12
   replace rG:=rG.keep hkw12
   replace xg:=xg.keep hkw12
   have hsw12:=hkw12.size
   clear m0 m1 m2 w0'
   obtain ⟨mo,hmo⟩:∃ mo,partOff s.N dt=mo:=⟨_,rfl⟩
   have HMO:Hid (lossOf (midOf s.N dt.I) dt.W=mo):=Lib.hid hmo
   rw [hmo] at HON1
   rw [HMO.out]
   clear hmo
   go_wp2_with fail
   refine (lossBack_ok (midOf s.N dt.I) dt.W _ _ _ (MatAt.mk xg) (MatAt.mk y2) HPK.out.loss).mono ?_
   rintro e w13 ⟨vg,rfl,⟨ag,ng,kg,bg,og,rfl,_,xq⟩,hb13⟩
   have hkw13:Below w12.heap.size w12 w13:=(Below.x1 hb13)
   replace B4:=B4.keep hkw13
   replace B4c:=B4.cell
   replace B4f:=B4.thawed
   replace B4z:=B4.lt
   replace B4k:=lt_add B4z
   replace B7:=B7.keep hkw13
   replace B7c:=B7.cell
   replace B7f:=B7.thawed
   replace B7z:=B7.lt
   replace B7k:=lt_add B7z
   replace B8:=B8.keep hkw13
   replace B8c:=B8.cell
   replace B8f:=B8.thawed
   replace B8z:=B8.lt
   replace B8k:=lt_add B8z
   replace h0:=h0.keep hkw13
   replace rB:=rB.keep hkw13
   replace rG:=rG.keep hkw13
   have hsw13:=hkw13.size
   obtain ⟨pb,hpb⟩:∃ pb,partBack s.N dt=pb:=⟨_,rfl⟩
   have hpb':lossBack (midOf s.N dt.I) dt.W=pb:=hpb
   rw [hpb'] at xq ⊢
   rw [hpb] at HGL HEB HBK HEH HBY1 HBN
   clear hpb hpb' B16 B16c B16f B16z B16k B19 B19c B19f B19z B19k xg y2
   go_wp2_with fail
   refine (netBack_any s.N (netOuts s.N dt.I n1) pb F _ _ _ _ _ _ _ _ _ _ _ _ _ (h0.alloc _) (rG.alloc _) (MatAt.mk (xq.alloc _)) HGL.out).mono ?_
   rintro e w14 ⟨u14,v14,rfl,hb14,hu14,_⟩
   obtain ⟨⟨au,nu,ku,bu,ou,rfl,_,xu⟩,aD,kD,bD,rfl,rD⟩:=hu14 HBK.out
   rw [HEB.out]
   have hkw14:Below w13.heap.size w13 w14:=(Below.x1 hb14)
   replace B4:=B4.keep hkw14
   replace B4c:=B4.cell
   replace B4f:=B4.thawed
   replace B4z:=B4.lt
   replace B4k:=lt_add B4z
   replace B7:=B7.keep hkw14
   replace B7c:=B7.cell
   replace B7f:=B7.thawed
   replace B7z:=B7.lt
   replace B7k:=lt_add B7z
   replace B8:=B8.keep hkw14
   replace B8c:=B8.cell
   replace B8f:=B8.thawed
   replace B8z:=B8.lt
   replace B8k:=lt_add B8z
   replace h0:=h0.keep hkw14
   replace rB:=rB.keep hkw14
   have hsw14:=hkw14.size
   clear hu14 rG xq xu
   go_wp2_with fail
   refine (gather_any (byTo s.N d S t) (bDs s.N (netOuts s.N dt.I n1) pb n1) _ _ _ _ _ _ _ _ _ _ _ _ _ (rB.alloc _) (rD.alloc _) (by omega)).mono ?_
   rintro e w15 ⟨uH,rfl,hb15,huH,_⟩
   obtain ⟨aH,kH,bH,rfl,rH⟩:=huH HBY1.out
   rw [HEH.out]
   rw [← HBN.out] at rH
   have hbe:Below w2.heap.size w2 w15:=hk.trans (((by repeat (first|(with_reducible first|exact Below.refl _ _|refine Below.al ?_ _|refine Below.drN ?_ _|refine Below.drew ?_|refine Below.sx ?_ _|refine Below.go ?_ hb15|refine Below.go ?_ hb14|refine Below.go ?_ hb13|refine Below.go ?_ hb12|refine Below.go ?_ hb11)|exact Below.refl _ _)):Below wr.heap.size wr w15).mono hk.size)
   have hz14:w.heap.size≤w14.heap.size:=Nat.le_trans hbr.size ((by repeat (first|(with_reducible first|exact Below.refl _ _|refine Below.al ?_ _|refine Below.drN ?_ _|refine Below.drew ?_|refine Below.sx ?_ _|refine Below.go ?_ hb14|refine Below.go ?_ hb13|refine Below.go ?_ hb12|refine Below.go ?_ hb11)|exact Below.refl _ _)):Below wr.heap.size wr w14).size
   have rH9:RowAt Form.grd w15 (newB w.heap.size) aH n1 kH bH 0 (byTo s.N d S (t+1)):=rH.wide (fun c hc _=>by unfold newB at hc ⊢;simp at hc;omega)
   clear huH rH hb11 hb12 hb13 hb14 hb15 hz14 rB rD B4 B4c B4f B4z B4k B7 B7c B7f B7z B7k B8 B8c B8f B8z B8k h0 h1
   go_wp2_with fail
   refine (add_any _ _ _).mono ?_
   rintro e w16 ⟨rfl,rfl⟩
   rw [← HON1.out]
   go_wp2
   go_roundw
   case rel=>exact ⟨t+1,aH,kH,bH,by omega,rfl,rfl,by go_num,rH9,hbe⟩
   case measure=>simp [intOf];omega
  ·obtain rfl:t=P:=by omega
   have c41:=B4.cell 1
   have c42:=B4.cell 2
   have c70:=B7.cell 0
   have c71:=B7.cell 1
   clear rL
   have hz:w.heap.size+4≤wr.heap.size:=by have:=B8.lt;omega
   go_wp2_with fail
   refine (trainStep_ok s (byTo s.N d S t) ln kp F G _ _ _ _ _ _ _ _ _ _ _ _ _ _ _ _ _ h0 h1 rB _ _ HST.out rfl rfl HSS.out).mono ?_
   rintro e w21 ⟨vS,rfl,hb21,a9,n9,k9,b9,a8,n8,k8,b8,rfl,q0,q1⟩
   have hkw21:Below wr.heap.size wr w21:=(Below.x1 hb21)
   replace B8:=B8.keep hkw21
   replace B8c:=B8.cell
   replace B8f:=B8.thawed
   replace B8z:=B8.lt
   replace B8k:=lt_add B8z
   have hsw21:=hkw21.size
   have hbw:Below w.heap.size w w21:=(Below.y1 hb21 hbr)
   have d0:=B8.cell 0
   have d1:=B8.cell 1
   have d2:=B8.cell 2
   have bz:=((B8.set 0 (.slice a9 n9 k9)).set 1 (.slice a8 n8 k8)).set 2 (.int .i64 (s.steps+1))
   have z0:=bz.cell 0
   have z1:=bz.cell 1
   have z2:=bz.cell 2
   have hbe:Below w.heap.size w (((w21.setCell ⟨w.heap.size+1+1+1,0,none⟩ (.slice a9 n9 k9)).setCell ⟨w.heap.size+1+1+1,1,none⟩ (.slice a8 n8 k8)).setCell ⟨w.heap.size+1+1+1,2,none⟩ (.int .i64 (s.steps+1))):=((hbw.setCell (by dsimp only;omega) _).setCell (by dsimp only;omega) _).setCell (by dsimp only;omega) _
   have hf9:Far (fun c=>c=w.heap.size+1+1+1) w21 (((w21.setCell ⟨w.heap.size+1+1+1,0,none⟩ (.slice a9 n9 k9)).setCell ⟨w.heap.size+1+1+1,1,none⟩ (.slice a8 n8 k8)).setCell ⟨w.heap.size+1+1+1,2,none⟩ (.int .i64 (s.steps+1))):=(((Far.refl (fun c=>c=w.heap.size+1+1+1) w21).st (fun _=>rfl) _).st (fun _=>rfl) _).st (fun _=>rfl) _
   have t0:=q0.farS hf9 (fun c hc _ hh=>by have h3:wr.heap.size≤c:=hc;have h4:c=w.heap.size+1+1+1:=hh;omega)
   have t1:=q1.farS hf9 (fun c hc _ hh=>by have h3:wr.heap.size≤c:=hc;have h4:c=w.heap.size+1+1+1:=hh;omega)
   have HP:=Lib.hid (And.intro hbe (And.intro (t0.wide (G:=newB w.heap.size) (fun c hc _=>Nat.le_trans (by omega) hc)) (t1.wide (G:=newB w.heap.size) (fun c hc _=>Nat.le_trans (by omega) hc))))
   clear hbe hf9 t0 t1 q0 q1 bz hbw h0 h1 rB B4 B4c B4z B7
   go_wp2
   refine bodyPost_ret (v:=.tuple #[.agg #[.slice a9 n9 k9,.slice a8 n8 k8,.int .i64 (s.steps+1)],.int .i64 (offTo s.N d S t),.nilIface]) (by simp [results,Tryz.results33,go_sem,z0,z1,z2]) rfl ⟨_,_,by rw [HE.out],HP.out.1,fun _=>⟨HOF.out.symm,?_⟩,fun h=>absurd HF.out h⟩
   rw [HON.out]
   exact ⟨a9,n9,k9,b9,a8,n8,k8,b8,rfl,HP.out.2.1,HP.out.2.2⟩
theorem trainOne_any :
  Calls Tryz.prog 33 #[.agg #[.slice a0 n k0,.slice a1 n1 k1,.int .i64 s.steps],vb,.int .i64 p,.agg #[.int .i64 ln,.int .i64 kp]] w (OneEnd w s d p ln kp)
 := by
 by_cases hf:oneFault s d p ln kp=0
 ·exact trainOne_ok s d p ln kp F G a0 a1 n n1 k0 k1 b0 b1 o0 o1 vb w h0 h1 hd hf
 ·exact trainOne_bad s d p ln kp F G a0 a1 n n1 k0 k1 b0 b1 o0 o1 vb w h0 h1 hd hf
end
end Go.Proofs.YtchngeagnlngaaaGreatDoor
end
