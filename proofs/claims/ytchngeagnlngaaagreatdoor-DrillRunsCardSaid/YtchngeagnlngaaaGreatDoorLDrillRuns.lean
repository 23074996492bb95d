/- DrillRuns: any batches, whoever falls when, are learned as the document says, in as many tries: the law returns true. No condition. -/
import Derived.Test.YtchngeagnlngaaaGreatDoorCards
import Derived.Test.YtchngeagnlngaaaGreatDoorTie
import Derived.Test.YtchngeagnlngaaaGreatDoorJ42
import Derived.Test.YtchngeagnlngaaaGreatDoorJ43
import Derived.Test.YtchngeagnlngaaaGreatDoorJ52
import Derived.Test.YtchngeagnlngaaaGreatDoorJ19
import Derived.Test.YtchngeagnlngaaaGreatDoorJ26
import Derived.Test.YtchngeagnlngaaaGreatDoorJ40
import Derived.Test.YtchngeagnlngaaaGreatDoorJ13
import Derived.LaidMore
import Derived.Stop.LaidErr
import Derived.Deep.DeepHandedRow
import Derived.Deep.DeepWitnessRowRef
import Derived.Deep.RegionLaw
import Derived.Deep.DeepCutAuto
set_option linter.unusedVariables false
set_option linter.unusedSimpArgs false
set_option linter.unusedSectionVars false
set_option maxRecDepth 100000
namespace Go.Proofs.YtchngeagnlngaaaGreatDoor.lawDrillRuns
open Go.ChangeShapes Go.WideShapes Go.ChangeAt Go.RowKit Go.Joins Gal
set_option maxHeartbeats 8000000
/-- a list of batches that came in -/
def LBats (w:World) (v:Value) (ds:List Bat):Prop:=∃ a n k b o,v=.slice a n k∧RowAt Form.bat w anyB a n k b o ds
theorem open_lBatch {H:Type} {enc:TypeId × Value→H} {w:World} {base b0:Nat} {r:Reach} {spare:Nat→Bool} {held:Bool} {v:Value} {d:DataW H} {p:List MemPlace}
  (hv:Value.okWide Tryz.prog w r b0 26 v) (h:DataW.Trod enc Tryz.prog w base spare held 26 v d p):∃ ds:List Bat,LBats w v ds:=by
 obtain ⟨a,n,cap,b,off,xs,e,hr,_⟩:=opens_bat.top_slice Tryz.underlying26 (by kernel_rfl) (by decide) hv h
 exact ⟨xs,a,n,cap,b,off,e,hr⟩
/-- a list of integers that came in: each is one -/
def IntsW (w:World) (v:Value) (xs:List Int):Prop:=(∃ a n k b o,v=.slice a n k∧IntsAt w a n k b o xs)∧∀ x ∈ xs,-9223372036854775808≤x∧x≤9223372036854775807
theorem wf_bounds {x:Int} (h:(Lit.int IntKind.i64 x).wf=true):-9223372036854775808≤x∧x≤9223372036854775807:=by
 have e1:IntKind.i64.min = -9223372036854775808:=rfl
 have e2:IntKind.i64.max=9223372036854775807:=rfl
 simp only [Lit.wf,Bool.and_eq_true,decide_eq_true_eq] at h
 omega
theorem open_lint {H:Type} {enc:TypeId × Value→H} {w:World} {base b0:Nat} {r:Reach} {spare:Nat→Bool} {held:Bool} {v:Value} {d:DataW H} {p:List MemPlace}
  (hv:Value.okWide Tryz.prog w r b0 29 v) (h:DataW.Trod enc Tryz.prog w base spare held 29 v d p):∃ xs:List Int,IntsW w v xs:=by
 obtain ⟨a0,len0,cap0,rfl⟩:=okWide_slice Tryz.underlying29 hv
 obtain ⟨fuel,hy⟩:=h
 rcases open_ints Tryz.underlying29 Tryz.underlying3 cells_int hy with ⟨hcs,_⟩|⟨x,l,c,zs,hcs,_,hl,hm,hz,_,hcell,hwz⟩
 ·simp [Value.cells] at hcs
  obtain ⟨rfl,rfl,rfl⟩:=hcs
  exact ⟨[],⟨none,0,0,0,0,rfl,⟨rfl,Nat.le_refl _,Nat.zero_le _,fun h=>absurd h (Nat.lt_irrefl _),fun h=>absurd h (Nat.lt_irrefl _),fun i hi=>absurd hi (Nat.not_lt_zero _)⟩⟩,fun x hx=>by cases hx⟩
 ·simp [Value.cells] at hcs
  obtain ⟨rfl,rfl,rfl⟩:=hcs
  obtain ⟨b,off,spot⟩:=x
  have hlz:len0≤zs.length:=by rw [hz];split <;> omega
  have hp:0<len0→spot=none:=fun h0=>by
   have:=hcell 0 (by omega)
   simpa [Addr.add] using World.cell?_spot this
  refine ⟨zs.take len0,⟨_,len0,cap0,b,off,rfl,⟨by rw [List.length_take];omega,hl,hm,fun h0=>by rw [hp h0],fun h0=>?_,fun i hi=>?_⟩⟩,fun x hx=>wf_bounds (hwz x (List.mem_of_mem_take hx))⟩
  ·have h1:=hcell 0 (by omega)
   have h2:=World.block_lt_of_cell? w _ h1
   simpa [Addr.add] using h2
  ·have h1:=hcell i (by omega)
   have h2:=hp (by omega)
   subst h2
   have hadd:(⟨b,off,none⟩:Addr).add i=⟨b,off+i,none⟩:=by unfold Addr.add;split <;> simp_all
   rw [hadd] at h1
   rw [h1]
   unfold ix
   rw [List.getElem?_take_of_lt hi,List.getD_eq_getElem?_getD]
/-- what comes of all, or nothing -/
def finSta (s:Sta) (l:List Bat) (p ln kp every:Int) (Fs:List Int):Sta:=if runFault s l p ln kp every Fs=0 then allSt s l p ln kp l.length else ⟨[],[],0⟩
/-- what is wrong behind t batches -/
def eft (s:Sta) (l:List Bat) (p ln kp every:Int) (Fs:List Int) (t:Nat):Int:=if drillFault s l.length every Fs≠0 then drillFault s l.length every Fs else allFt s l p ln kp t
theorem fin_state {s:Sta} {l:List Bat} {p ln kp every:Int} {Fs:List Int} {base L:Nat} {w':World} {v:Value} {c:Int} (hL:l.length=L)
  (h:runFault s l p ln kp every Fs=0→∃ t:Nat,c=(t:Int)∧TrySt every.toNat Fs L t∧¬ atK every.toNat Fs t<L∧StaUp base w' v (allSt s l p ln kp L))
  (h':runFault s l p ln kp every Fs≠0→c=0∧v=.agg #[.slice none 0 0,.slice none 0 0,.int .i64 0]) :
  ∃ a n k b o a1 n1 k1 b1 o1,v=.agg #[.slice a n k,.slice a1 n1 k1,.int .i64 (finSta s l p ln kp every Fs).steps]∧RowAt Form.lay w' anyB a n k b o (finSta s l p ln kp every Fs).N∧RowAt Form.grd w' anyB a1 n1 k1 b1 o1 (finSta s l p ln kp every Fs).V:=by
 unfold finSta
 by_cases hf:runFault s l p ln kp every Fs=0
 ·rw [if_pos hf]
  obtain ⟨_,_,_,_,hS⟩:=h hf
  rw [← hL] at hS
  exact hS.sta
 ·rw [if_neg hf]
  obtain ⟨_,rfl⟩:=h' hf
  exact ⟨none,0,0,0,0,none,0,0,0,0,rfl,RowAt.nil _ _ _,RowAt.nil _ _ _⟩
theorem one_ends {base:Nat} {w':World} {s:Sta} {d:Bat} {p ln kp off:Int} {v:Value} (h:oneFault s d p ln kp=0→off=oneOff s d p∧StaNew base w' v (oneOf s d p ln kp)) (h':oneFault s d p ln kp≠0→off=0∧v=.agg #[.slice none 0 0,.slice none 0 0,.int .i64 0]) :
  ∃ a n k b a1 n1 k1 b1 z,v=.agg #[.slice a n k,.slice a1 n1 k1,.int .i64 z]∧(oneFault s d p ln kp=0→z=(oneOf s d p ln kp).steps∧RowAt Form.lay w' (newB base) a n k b 0 (oneOf s d p ln kp).N∧RowAt Form.grd w' (newB base) a1 n1 k1 b1 0 (oneOf s d p ln kp).V):=by
 by_cases hf:oneFault s d p ln kp=0
 ·obtain ⟨h1,a,n,k,b,a1,n1,k1,b1,rfl,q0,q1⟩:=h hf
  exact ⟨a,n,k,b,a1,n1,k1,b1,_,rfl,fun _=>⟨rfl,q0,q1⟩⟩
 ·obtain ⟨_,rfl⟩:=h' hf
  exact ⟨none,0,0,0,none,0,0,0,0,rfl,fun h=>absurd h hf⟩
theorem walk (s:Sta) (v0:Value) (l:List Bat) (v1:Value) (p:Int) (r:Rts) (v3:Value) (every:Int) (Fs:List Int) (v5:Value) (w:World) (h0':StaV w v0 s) (h1':LBats w v1 l) (wp:(Lit.int IntKind.i64 p).wf=true) (h3:RatesAt w v3 r) (we:(Lit.int IntKind.i64 every).wf=true) (h5:IntsW w v5 Fs)
  (hh:Handle w) (ss:∃ a,w.cell? ⟨0,0,none⟩=some (.iface 218 (.pointer (some a)))) :
  Calls Tryz.prog 3 #[v0,v1,.int .i64 p,v3,.int .i64 every,v5] w fun e w'=>e=.returned (.bool true)∧Below w.heap.size w w':=by
 obtain ⟨a0,n,k0,b0,o0,a1,n1,k1,b1,o1,rfl,h0,h1⟩:=h0'
 obtain ⟨al,L,kl,bl,ol,rfl,hl⟩:=h1'
 obtain ⟨⟨af,nf,kf,bf,o2,rfl,hf⟩,hFw⟩:=h5
 obtain ⟨ln,kp⟩:=r
 unfold RatesAt at h3
 subst h3
 obtain ⟨A,hg⟩:=ss
 dsimp only
 have hLL:=hl.len
 have hk0:∀ W,Below w.heap.size w W→RowAt Form.lay W anyB a0 n k0 b0 o0 s.N:=fun W hb=>h0.keep hb
 have hk1:∀ W,Below w.heap.size w W→RowAt Form.grd W anyB a1 n1 k1 b1 o1 s.V:=fun W hb=>h1.keep hb
 have hkl:∀ W,Below w.heap.size w W→RowAt Form.bat W anyB al L kl bl ol l:=fun W hb=>hl.keep hb
 have hkf:∀ W,Below w.heap.size w W→IntsAt W af nf kf bf o2 Fs:=fun W hb=>hf.keep hb
 have hkh:∀ W,Below w.heap.size w W→Handle W:=fun W hb=>hh.keep hb
 have hkg:∀ W,Below w.heap.size w W→W.cell? ⟨0,0,none⟩=some (.iface 218 (.pointer (some A))):=fun W hb=>(hb.cell (p:=⟨0,0,none⟩) (World.block_lt_of_cell? w _ hg)).trans hg
 have K0:=Lib.hid hk0;have K1:=Lib.hid hk1;have KL:=Lib.hid hkl;have KF:=Lib.hid hkf;have KH:=Lib.hid hkh;have KG:=Lib.hid hkg
 have HFW:=Lib.hid hFw
 have HLL:=Lib.hid hLL
 clear hk0 hk1 hkl hkf hkh hkg h0 h1 hl hf hh hg hFw hLL wp we
 go_enter Tryz.func3,Tryz.ntmps3
 go_wp2_with fail
 refine (lawState_any s.steps a0 a1 n n1 k0 k1 _).mono ?_
 rintro e w1 ⟨rfl,hb1⟩
 have B6:=((show Box _ w.heap.size [.slice a0 n k0,.slice a1 n1 k1,.int .i64 s.steps] 25 from Box.x0)).keep hb1
 have B6c:=B6.cell
 have B6f:=B6.thawed
 have B6z:=B6.lt
 have B6k:=lt_add B6z
 have B9:=((show Box _ (w.heap.size+1) [.int .i64 ln,.int .i64 kp] 28 from Box.x0)).keep hb1
 have B9c:=B9.cell
 have B9f:=B9.thawed
 have B9z:=B9.lt
 have B9k:=lt_add B9z
 go_wp2_with fail
 refine (run_any s l p ln kp every Fs _ _ _ _ _ _ _ _ _ _ _ _ _ _ _ _ _ _ _ _ _ _ _ A _ (K0.out _ (Below.x1 hb1)) (K1.out _ (Below.x1 hb1)) (KL.out _ (Below.x1 hb1)) (KF.out _ (Below.x1 hb1)) HFW.out (KH.out _ (Below.x1 hb1)) (KG.out _ (Below.x1 hb1))).mono ?_
 rintro e w2 ⟨vT,cT,rfl,hb2,hok,hbad⟩
 have hkw2:Below w1.heap.size w1 w2:=(Below.x1 hb2)
 replace B6:=B6.keep hkw2
 replace B6c:=B6.cell
 replace B6f:=B6.thawed
 replace B6z:=B6.lt
 replace B6k:=lt_add B6z
 replace B9:=B9.keep hkw2
 replace B9c:=B9.cell
 replace B9f:=B9.thawed
 replace B9z:=B9.lt
 replace B9k:=lt_add B9z
 have hsw2:=hkw2.size
 have HOK:=Lib.hid hok
 obtain ⟨c0,m0,l0,d0,p0,c1,m1,l1,d1,p1,rfl,q0,q1⟩:=fin_state HLL.out hok hbad
 have HB0:Hid (runFault s l p ln kp every Fs≠0→cT=0):=Lib.hid (fun h=>(hbad h).1)
 obtain ⟨S,hS⟩:∃ S,finSta s l p ln kp every Fs=S:=⟨_,rfl⟩
 rw [hS] at q0 q1 ⊢
 have HS:=Lib.hid hS
 obtain ⟨f,hf⟩:∃ f,runFault s l p ln kp every Fs=f:=⟨_,rfl⟩
 rw [hf]
 have HF:=Lib.hid hf
 have hLm:L≤9223372036854775807:=(KL.out w (Below.refl _ _)).max
 clear hok hbad hS hf
 go_wp2_with fail
 refine (refDrillFault_any s L every Fs _ _ _ _ al _ _ _ _ _ _ _ _ _ kl _ _ _ _ _ (K0.out _ (Below.x2 hb2 hb1)) (K1.out _ (Below.x2 hb2 hb1)) (KF.out _ (Below.x2 hb2 hb1)) hLm).mono ?_
 rintro e w3 ⟨rfl,hb3⟩
 have P14:=((show Box _ w2.heap.size [.slice c0 m0 l0,.slice c1 m1 l1,.int .i64 S.steps] 30 from Box.x0)).keep hb3
 have P14c:=P14.cell
 have P14f:=P14.thawed
 have P14z:=P14.lt
 have P14k:=lt_add P14z
 have hkw3:Below w2.heap.size w2 w3:=(Below.x1 hb3)
 replace B6:=B6.keep hkw3
 replace B6c:=B6.cell
 replace B6f:=B6.thawed
 replace B6z:=B6.lt
 replace B6k:=lt_add B6z
 replace B9:=B9.keep hkw3
 replace B9c:=B9.cell
 replace B9f:=B9.thawed
 replace B9z:=B9.lt
 replace B9k:=lt_add B9z
 replace q0:=q0.keep hkw3
 replace q1:=q1.keep hkw3
 have hsw3:=hkw3.size
 obtain ⟨dF,hdF⟩:∃ dF,drillFault s L every Fs=dF:=⟨_,rfl⟩
 rw [hdF]
 have HDF:=Lib.hid hdF
 have hbw3:Below w.heap.size w w3:=(by repeat (first|(with_reducible first|exact Below.refl _ _|refine Below.al ?_ _|refine Below.drN ?_ _|refine Below.drew ?_|refine Below.sx ?_ _|refine Below.go ?_ hb3|refine Below.go ?_ hb2|refine Below.go ?_ hb1)|exact Below.refl _ _))
 have hz3:=hbw3.size
 obtain ⟨pW,hpW⟩:∃ pW,w3.heap.size=pW:=⟨_,rfl⟩
 obtain ⟨we,hwe⟩:∃ we,w3.alloc (.cells #[.slice a0 n k0,.slice a1 n1 k1,.int .i64 s.steps] 25)=we:=⟨_,rfl⟩
 have hb3e:Below w3.heap.size w3 we:=by rw [← hwe];exact Below.x0
 have hbe:Below w.heap.size w we:=hbw3.trans (hb3e.mono hz3)
 have E6:=B6.keep hb3e
 have E9:=B9.keep hb3e
 have E14:=P14.keep hb3e
 have eq0:=q0.keep hb3e
 have eq1:=q1.keep hb3e
 have R18:Box we pW [.slice a0 n k0,.slice a1 n1 k1,.int .i64 s.steps] 25:=by rw [← hwe,← hpW];exact Box.new w3 _ _
 have hp14:w2.heap.size<pW:=by rw [← hpW];exact P14.lt
 have hp6:w.heap.size+1<pW:=by rw [← hpW];exact B9.lt
 have hq0l:∀ b,b<w3.heap.size→b<pW:=fun b hb=>by omega
 replace eq0:=(q0.wide (G:=fun b=>b<pW) (fun b _ hb=>hq0l b hb)).keep hb3e
 replace eq1:=(q1.wide (G:=fun b=>b<pW) (fun b _ hb=>hq0l b hb)).keep hb3e
 have HPW:=Lib.hid hpW
 have B60:=B6.cell 0
 have B61:=B6.cell 1
 have B62:=B6.cell 2
 clear hdF hb1 hb2 hb3 q0 q1 hq0l hpW
 go_wp2
 try rw [hwe]
 try rw [HPW.out]
 have HFT0:Hid (eft s l p ln kp every Fs 0=dF):=Lib.hid (by
  unfold eft
  rw [HLL.out,HDF.out]
  by_cases h:dF=0
  ·rw [if_neg (by simp [h]),h];rfl
  ·rw [if_pos h])
 have z18:=R18.cell 0
 clear B60 B61 B62 z18 B6 B9 P14
 go_loopw [17,19] (fun e j wr=>∃ (t:Nat) (c4 c5:Option Addr) (m4 m5 l4 l5 d4 d5 p4 p5:Nat) (z:Int),t≤L∧e=.int .i64 (eft s l p ln kp every Fs t)∧j=.int .i64 t∧Far (fun b=>b=pW) we wr∧Box wr pW [.slice c4 m4 l4,.slice c5 m5 l5,.int .i64 z] 25 ∧
  (eft s l p ln kp every Fs t=0→z=(allSt s l p ln kp t).steps∧RowAt Form.lay wr (fun b=>b≠pW) c4 m4 l4 d4 p4 (allSt s l p ln kp t).N∧RowAt Form.grd wr (fun b=>b≠pW) c5 m5 l5 d5 p5 (allSt s l p ln kp t).V)) (fun _ j _=>L - (intOf j).toNat)
 case atStart=>exact ⟨0,a0,a1,n,n1,k0,k1,b0,b1,o0,o1,s.steps,Nat.zero_le _,by rw [HFT0.out],rfl,Far.refl _ _,R18,fun _=>⟨rfl,((K0.out w (Below.refl _ _)).wide (G:=fun b=>b<w.heap.size) (fun b _ h=>h) |>.keep hbe).wide (fun b hb _=>by omega),((K1.out w (Below.refl _ _)).wide (G:=fun b=>b<w.heap.size) (fun b _ h=>h) |>.keep hbe).wide (fun b hb _=>by omega)⟩⟩
 case round=>
  clear HFT0 R18
  obtain ⟨t,c4,c5,m4,m5,l4,l5,d4,d5,p4,p5,z,ht,rfl,rfl,hfr,R18,hrd⟩:=hrel
  have hzr:=hfr.size
  have hbr:Below w.heap.size w wr:=Far.toBelow hbe hfr (by have:=hbe.size;omega) (fun k e=>by omega)
  have F9:=E9.farS hfr (by omega)
  have F14:=E14.farS hfr (by omega)
  have rz18:=R18.lt
  obtain ⟨g,hg⟩:∃ g,eft s l p ln kp every Fs t=g:=⟨_,rfl⟩
  rw [hg] at hrd ⊢
  have HG:=Lib.hid hg
  clear hg
  by_cases hlt:t<L∧g=0
  ·obtain ⟨hlt,rfl⟩:=hlt
   have hltI:((t:Int)<(L:Int))=True:=eq_true (by omega)
   have ht0:(0:Int)≤(t:Int):=by omega
   obtain ⟨rfl,r4,r5⟩:=hrd rfl
   have hdz:dF=0∧allFt s l p ln kp t=0:=by
    have h9:=HG.out
    unfold eft at h9
    rw [HLL.out,HDF.out] at h9
    by_cases h8:dF=0
    ·rw [if_neg (by simp [h8])] at h9;exact ⟨h8,h9⟩
    ·rw [if_pos h8] at h9;exact absurd h9 h8
   have hlr:=KL.out wr hbr
   obtain rfl:=hlr.ptr (by omega)
   have hblz:=hlr.lt (by omega)
   obtain ⟨aA,nA,kA,bA,oA,aB,nB,kB,bB,oB,x0,x1,x2,x3,x4,x5,y1,y2⟩:=bat_cells (i:=t) (d:=bx l t) hlr (bx_get (by rw [HLL.out];exact hlt))
   obtain ⟨St,hSt⟩:∃ St,allSt s l p ln kp t=St:=⟨_,rfl⟩
   obtain ⟨d,hd⟩:∃ d,bx l t=d:=⟨_,rfl⟩
   rw [hSt] at R18 r4 r5
   rw [hd] at x0 x1 x3 x4 y1 y2
   have HFN:Hid (eft s l p ln kp every Fs (t+1)=oneFault St d p ln kp):=Lib.hid (by unfold eft;rw [HLL.out,HDF.out,if_neg (by simp [hdz.1]),allFt_next hdz.2,hSt,hd])
   have HSN:Hid (allSt s l p ln kp (t+1)=oneOf St d p ln kp):=Lib.hid (by rw [← hSt,← hd];rfl)
   have rc0:=R18.cell 0
   have rc1:=R18.cell 1
   have rc2:=R18.cell 2
   have b90:=F9.cell 0
   have b91:=F9.cell 1
   have hPQ:=Lib.hid hfr
   clear hSt hd hdz hrd hlr E6 F14
   go_wp2_with fail
   go_region_law ((go_simp;go_at_call 7;refine (refOneOf_any St d p ln kp _ _ _ _ _ _ _ _ _ _ _ _ _ _ (r4.keep Below.x0) (r5.keep Below.x0) ⟨aA,nA,kA,bA,oA,aB,nB,kB,bB,oB,rfl,y1.keep Below.x0,y2.keep Below.x0⟩).mono ?_;rintro e w5 ⟨vR,offr,rfl,hb5,hR,hR'⟩;obtain ⟨a6,n6,k6,b6,a7,n7,k7,b7,z7,rfl,hQ⟩:=one_ends hR hR';have R5:Box w5 pW [.slice c4 m4 l4,.slice c5 m5 l5,.int .i64 St.steps] 25:=(by first|exact R18.k1 hb5|exact R18.k);have s0:=R5.cell 0;have s1:=R5.cell 1;have s2:=R5.cell 2;have f0:=R5.thawed 0;have f1:=R5.thawed 1;have f2:=R5.thawed 2))
   all_goals (
    have hb5w:Below wr.heap.size wr w5:=(Below.x1 hb5)
    obtain ⟨wx,hwx,R18c,hf5⟩:=store3 R5 (.slice a6 n6 k6) (.slice a7 n7 k7) (.int .i64 z7)
    have hfc:Far (fun b=>b=pW) wr wx:=(Far.of_below hb5w).trans (hf5.wide (fun k _ h=>h))
    have hno:∀ X:World,Below wr.heap.size wr X→∀ c,newB X.heap.size c→¬ isB pW c:=fun X hX c hc e=>by have h9:X.heap.size≤c:=hc;have:=hX.size;unfold isB at e;omega
    have hno2:∀ X:World,Below wr.heap.size wr X→∀ c,newB X.heap.size c→c≠pW:=fun X hX c hc e=>by have h9:X.heap.size≤c:=hc;have:=hX.size;omega
    have HNEW:Hid (oneFault St d p ln kp=0→z7=(oneOf St d p ln kp).steps∧RowAt Form.lay wx (fun b=>b≠pW) a6 n6 k6 b6 0 (oneOf St d p ln kp).N∧RowAt Form.grd wx (fun b=>b≠pW) a7 n7 k7 b7 0 (oneOf St d p ln kp).V):=Lib.hid (fun h=>
     ⟨(hQ h).1,((hQ h).2.1.farS hf5 (fun c hc _=>hno _ Below.x0 c hc)).wide (fun c hc _=>hno2 _ Below.x0 c hc),((hQ h).2.2.farS hf5 (fun c hc _=>hno _ Below.x0 c hc)).wide (fun c hc _=>hno2 _ Below.x0 c hc)⟩)
    have HRG:=Lib.hid (And.intro (hPQ.out.trans hfc) R18c)
    clear hQ hf5 hfc R18c hno hno2 hb5w hb5
    rw [← HFN.out,← HSN.out] at HNEW
    rw [← HFN.out]
    go_wp2
    try rw [hwx]
    go_roundw
    case rel=>exact ⟨t+1,a6,a7,n6,n7,k6,k7,b6,b7,0,0,z7,by omega,rfl,by go_num,HRG.out.1,HRG.out.2,HNEW.out⟩
    case measure=>simp [intOf];omega)
  ·have hfg:f=g:=by
    rw [← HF.out,← HG.out]
    unfold runFault eft
    rw [HLL.out,HDF.out]
    by_cases h8:dF=0
    ·rw [if_neg (by simp [h8]),if_neg (by simp [h8])]
     rcases Nat.lt_or_ge t L with h|h
     ·have hg0:g≠0:=fun e=>hlt ⟨h,e⟩
      have h9:=HG.out
      unfold eft at h9
      rw [HLL.out,HDF.out,if_neg (by simp [h8])] at h9
      exact allFt_stays (by omega) (by rw [h9];exact hg0)
     ·obtain rfl:t=L:=by omega
      rfl
    ·rw [if_pos h8,if_pos h8]
   subst hfg
   have fq0:=eq0.farS hfr (fun b hb _=>by omega)
   have fq1:=eq1.farS hfr (fun b hb _=>by omega)
   have HBR:=Lib.hid hbr
   clear HG hfr E6 E9 E14 F9 hbr
   by_cases hf0:f=0
   ·obtain rfl:t=L:=by
     rcases Nat.lt_or_ge t L with h|h
     ·exact absurd ⟨h,hf0⟩ hlt
     ·omega
    obtain ⟨rfl,r4,r5⟩:=hrd hf0
    have HSL:Hid (allSt s l p ln kp t=S):=Lib.hid (by rw [← HS.out];unfold finSta;rw [if_pos (HF.out.trans hf0),HLL.out])
    rw [HSL.out] at r4 r5 R18
    have hd0:drillFault s t every Fs=0:=by
     have h9:=HF.out
     unfold runFault at h9
     rw [HLL.out] at h9
     by_cases h8:drillFault s t every Fs=0
     ·exact h8
     ·rw [if_pos h8] at h9;exact absurd (h9.trans hf0) h8
    obtain ⟨hL20,hE1,hE20,hF20,_⟩:=drillFault_ok hd0
    obtain ⟨t1,hc1,hT1,hT1',_⟩:=HOK.out (HF.out.trans hf0)
    have HTR:=refDrillTries_any t every.toNat Fs af nf kf bf o2 wr (KF.out wr HBR.out) hL20 (by omega) (by omega) hF20
    rw [Int.toNat_of_nonneg (by omega)] at HTR
    have HT1:=Lib.hid (And.intro hc1 (And.intro hT1 hT1'))
    have hg1:(f == 0)=true:=by rw [beq_iff_eq];exact hf0
    have hltN:((t:Int)<(t:Int))=False:=eq_false (by omega)
    clear hd0 hL20 hE1 hE20 hF20 hc1 hT1 hT1' hf0 hlt hrd
    go_wp2_with fail
    refine HTR.mono ?_
    rintro e w' ⟨t2,rfl,hT2,hT2',rfl⟩
    obtain rfl:cT=(t2:Int):=by rw [HT1.out.1,HT1.out.2.1.same HT1.out.2.2 hT2 hT2']
    have hcc:((t2:Int) == (t2:Int))=true:=by simp
    clear hT2 hT2' HTR
    try go_wp2_with fail
    refine (error_any f f _ (KH.out _ (HBR.out))).mono ?_
    rintro e y1 ⟨rfl,hy1⟩
    rw [decide_eq_true rfl]
    have G18:=(R18).keep hy1
    have G14:=(F14).keep hy1
    have hg40:=(r4).keep hy1
    have hg50:=(r5).keep hy1
    have hq00:=(fq0).keep hy1
    have hq10:=(fq1).keep hy1
    have HY1:=Lib.hid ((HBR.out).trans (hy1.mono (HBR.out).size))
    have g180:=G18.cell 0
    have g181:=G18.cell 1
    have g182:=G18.cell 2
    clear hy1
    go_wp2_with fail
    refine (lawState_any _ _ _ _ _ _ _ _).mono ?_
    rintro e y2 ⟨rfl,hy2⟩
    have I14:=G14.keep hy2
    have i140:=I14.cell 0
    have i141:=I14.cell 1
    have i142:=I14.cell 2
    have iz:=I14.lt
    have ig40:=hg40.keep hy2
    have ig50:=hg50.keep hy2
    have iq00:=hq00.keep hy2
    have iq10:=hq10.keep hy2
    have HY2:=Lib.hid (HY1.out.trans (hy2.mono HY1.out.size))
    clear G18 G14 g180 g181 g182 hy2 hg40 hg50 hq00 hq10
    go_wp2_with fail
    refine (states_same (S) _ _ _ ⟨_,_,_,_,_,_,_,_,_,_,rfl,(iq00.alloc _).wide (fun _ _ _=>trivial),(iq10.alloc _).wide (fun _ _ _=>trivial)⟩ ⟨_,_,_,_,_,_,_,_,_,_,rfl,(ig40.alloc _).wide (fun _ _ _=>trivial),(ig50.alloc _).wide (fun _ _ _=>trivial)⟩).mono ?_
    rintro e y3 ⟨rfl,hy3⟩
    have HY3:Hid (Below w.heap.size w y3):=Lib.hid ((HY2.out.alloc HY2.out.size _).trans (hy3.mono (by have:=HY2.out.size;simp;omega)))
    clear hy3 I14 i140 i141 i142 ig40 ig50 iq00 iq10
    go_wp2
    go_ret
    exact ⟨rfl,HY3.out⟩
   ·have hg1:(f == 0)=false:=by rw [beq_eq_false_iff_ne];exact hf0
    obtain rfl:S=⟨[],[],0⟩:=by rw [← HS.out];unfold finSta;rw [if_neg (by rw [HF.out];exact hf0)]
    obtain rfl:cT=0:=HB0.out (by rw [HF.out];exact hf0)
    have f0:=R18.thawed 0
    have f1:=R18.thawed 1
    have f2:=R18.thawed 2
    have rc0:=R18.cell 0
    have rc1:=R18.cell 1
    have rc2:=R18.cell 2
    obtain ⟨wx,hwx,R18x,hfx⟩:=store3 R18 (.slice none 0 0) (.slice none 0 0) (.int .i64 0)
    have hbx:Below w.heap.size w wx:=Far.toBelow HBR.out hfx (by have:=HBR.out.size;exact this) (fun k (h9:k=pW)=>by omega)
    have X14:=F14.farS hfx (fun h9:w2.heap.size=pW=>by omega)
    have xq0:=fq0.farS hfx (fun b hb _ (h9:b=pW)=>by omega)
    have xq1:=fq1.farS hfx (fun b hb _ (h9:b=pW)=>by omega)
    have r4:RowAt Form.lay wx anyB none 0 0 0 0 ([]:List Lay):=RowAt.nil _ _ _
    have r5:RowAt Form.grd wx anyB none 0 0 0 0 ([]:List Grd):=RowAt.nil _ _ _
    have HWX:=Lib.hid hwx
    have HBX:=Lib.hid hbx
    have hcc:((0:Int) == (0:Int))=true:=by simp
    clear hrd hf0 hfx hbx F14 fq0 fq1 R18 hwx
    rcases Nat.lt_or_ge t L with hq|hq
    ·have hltI:((t:Int)<(L:Int))=True:=eq_true (by omega)
     clear hlt
     go_wp2_with fail
     rw [HWX.out]
     try go_wp2_with fail
     refine (error_any f f _ (KH.out _ (HBX.out))).mono ?_
     rintro e y1 ⟨rfl,hy1⟩
     rw [decide_eq_true rfl]
     have G18:=(R18x).keep hy1
     have G14:=(X14).keep hy1
     have hg40:=(r4).keep hy1
     have hg50:=(r5).keep hy1
     have hq00:=(xq0).keep hy1
     have hq10:=(xq1).keep hy1
     have HY1:=Lib.hid ((HBX.out).trans (hy1.mono (HBX.out).size))
     have g180:=G18.cell 0
     have g181:=G18.cell 1
     have g182:=G18.cell 2
     clear hy1
     go_wp2_with fail
     refine (lawState_any _ _ _ _ _ _ _ _).mono ?_
     rintro e y2 ⟨rfl,hy2⟩
     have I14:=G14.keep hy2
     have i140:=I14.cell 0
     have i141:=I14.cell 1
     have i142:=I14.cell 2
     have iz:=I14.lt
     have ig40:=hg40.keep hy2
     have ig50:=hg50.keep hy2
     have iq00:=hq00.keep hy2
     have iq10:=hq10.keep hy2
     have HY2:=Lib.hid (HY1.out.trans (hy2.mono HY1.out.size))
     clear G18 G14 g180 g181 g182 hy2 hg40 hg50 hq00 hq10
     go_wp2_with fail
     refine (states_same (⟨[],[],0⟩) _ _ _ ⟨_,_,_,_,_,_,_,_,_,_,rfl,(iq00.alloc _).wide (fun _ _ _=>trivial),(iq10.alloc _).wide (fun _ _ _=>trivial)⟩ ⟨_,_,_,_,_,_,_,_,_,_,rfl,(ig40.alloc _).wide (fun _ _ _=>trivial),(ig50.alloc _).wide (fun _ _ _=>trivial)⟩).mono ?_
     rintro e y3 ⟨rfl,hy3⟩
     have HY3:Hid (Below w.heap.size w y3):=Lib.hid ((HY2.out.alloc HY2.out.size _).trans (hy3.mono (by have:=HY2.out.size;simp;omega)))
     clear hy3 I14 i140 i141 i142 ig40 ig50 iq00 iq10
     go_wp2
     go_ret
     exact ⟨rfl,HY3.out⟩
    ·have hltI:((t:Int)<(L:Int))=False:=eq_false (by omega)
     clear hlt
     go_wp2_with fail
     rw [HWX.out]
     try go_wp2_with fail
     refine (error_any f f _ (KH.out _ (HBX.out))).mono ?_
     rintro e y1 ⟨rfl,hy1⟩
     rw [decide_eq_true rfl]
     have G18:=(R18x).keep hy1
     have G14:=(X14).keep hy1
     have hg40:=(r4).keep hy1
     have hg50:=(r5).keep hy1
     have hq00:=(xq0).keep hy1
     have hq10:=(xq1).keep hy1
     have HY1:=Lib.hid ((HBX.out).trans (hy1.mono (HBX.out).size))
     have g180:=G18.cell 0
     have g181:=G18.cell 1
     have g182:=G18.cell 2
     clear hy1
     go_wp2_with fail
     refine (lawState_any _ _ _ _ _ _ _ _).mono ?_
     rintro e y2 ⟨rfl,hy2⟩
     have I14:=G14.keep hy2
     have i140:=I14.cell 0
     have i141:=I14.cell 1
     have i142:=I14.cell 2
     have iz:=I14.lt
     have ig40:=hg40.keep hy2
     have ig50:=hg50.keep hy2
     have iq00:=hq00.keep hy2
     have iq10:=hq10.keep hy2
     have HY2:=Lib.hid (HY1.out.trans (hy2.mono HY1.out.size))
     clear G18 G14 g180 g181 g182 hy2 hg40 hg50 hq00 hq10
     go_wp2_with fail
     refine (states_same (⟨[],[],0⟩) _ _ _ ⟨_,_,_,_,_,_,_,_,_,_,rfl,(iq00.alloc _).wide (fun _ _ _=>trivial),(iq10.alloc _).wide (fun _ _ _=>trivial)⟩ ⟨_,_,_,_,_,_,_,_,_,_,rfl,(ig40.alloc _).wide (fun _ _ _=>trivial),(ig50.alloc _).wide (fun _ _ _=>trivial)⟩).mono ?_
     rintro e y3 ⟨rfl,hy3⟩
     have HY3:Hid (Below w.heap.size w y3):=Lib.hid ((HY2.out.alloc HY2.out.size _).trans (hy3.mono (by have:=HY2.out.size;simp;omega)))
     clear hy3 I14 i140 i141 i142 ig40 ig50 iq00 iq10
     go_wp2
     go_ret
     exact ⟨rfl,HY3.out⟩
theorem own:ownKnob Tryz.prog.godebug=none:=by kernel_rfl
theorem laidOut:laidOutB Tryz.prog=true:=by kernel_rfl
theorem et:Tryz.prog.globalNamed "errors.errorType" = some 1:=by kernel_rfl
theorem rt:(Tryz.prog.cutTypes.find? (·.1 == "internal/reflectlite.rtype")).map (·.2)=some 150:=by kernel_rfl
theorem oneRow:((List.range 253).filter fun t=>Tryz.prog.rowNamed t [101,114,114,111,114])=[33]:=by kernel_rfl
theorem tsize:Tryz.prog.types.size=253:=by kernel_rfl
theorem handle_of_laid {W:World} (h:laidMetH Tryz.prog Rows.drillRunsRow.laid W):Handle W:=by
 have h':laidMet Tryz.prog [("galley/keep.errShort",Rows.laid_galley_keep_errShort)] W∧handlesMet Tryz.prog [("errors.errorType",Rows.laid_errors_errorType)] W:=h
 obtain ⟨name,u,ty,e1,e2,e3,e4,e5⟩:=h'.2 _ (List.mem_singleton.2 rfl)
 have en:name=[101,114,114,111,114]:=(Option.some.inj e1).symm
 subst en
 obtain rfl:=Option.some.inj (rt.symm.trans e2)
 have hm:ty ∈ (List.range 253).filter fun t=>Tryz.prog.rowNamed t [101,114,114,111,114]:=List.mem_filter.2 ⟨List.mem_range.2 (by rw [← tsize];exact e3),e4⟩
 rw [oneRow] at hm
 obtain rfl:=List.mem_singleton.1 hm
 have hh:typeHandle Tryz.prog 33=.pointer (some ⟨2,33,none⟩):=by kernel_rfl
 rw [hh] at e5
 simpa [Handle,handleV] using World.var?_cell et e5 0
theorem star : "*" ++ "errors.errorString" = "*errors.errorString":=by decide
theorem rowp (u:TypeId) (h:Tryz.prog.typeName? 3 u=some "*errors.errorString"):u=218:=
 typeName_ptr_named (nm:="errors.errorString") (by rw [star];kernel_rfl) (by kernel_rfl) (by decide) u (by rw [star];exact h)
theorem short_of_laid {W:World} (h:laidMetH Tryz.prog Rows.drillRunsRow.laid W):∃ a,W.cell? ⟨0,0,none⟩=some (.iface 218 (.pointer (some a))):=by
 have h':laidMet Tryz.prog [("galley/keep.errShort",Rows.laid_galley_keep_errShort)] W∧handlesMet Tryz.prog [("errors.errorType",Rows.laid_errors_errorType)] W:=h
 have hg:Tryz.prog.globalNamed "galley/keep.errShort" = some 0:=by kernel_rfl
 obtain ⟨a,s,hv,_⟩:=laid_sentinel h'.1 hg (by kernel_rfl) Tryz.underlying33 rowp Tryz.underlying218 Tryz.underlying241 rfl rfl Tryz.underlying9 (by kernel_rfl) (by kernel_rfl)
 exact ⟨a,by simpa using World.var?_cell hg hv 0⟩
theorem laid_met (os:Os):laidMetH Tryz.prog Rows.drillRunsRow.laid ((World.doorLaid Tryz.prog 400 os).forCall (fun _ _=>0) ⟨#[],#[.agg #[.slice none 0 0,.slice none 0 0,.int .i64 0],.slice none 0 0,.int .i64 0,.agg #[.int .i64 0,.int .i64 0],.int .i64 0,.slice none 0 0],[]⟩).memory:=
 laidMetH_of_parts3 (fuel:=8) (laidMet_of_run' 8 (by kernel_rfl) (by kernel_rfl)) (by kernel_rfl) (by kernel_rfl)
theorem reads (os:Os) {H:Type} (enc:TypeId × Value→H):∃ places,DataW.whole enc Tryz.prog ((World.doorLaid Tryz.prog 400 os).forCall (fun _ _=>0) ⟨#[],#[.agg #[.slice none 0 0,.slice none 0 0,.int .i64 0],.slice none 0 0,.int .i64 0,.agg #[.int .i64 0,.int .i64 0],.int .i64 0,.slice none 0 0],[]⟩).memory Tryz.f3.params.toList Rows.drillRunsSpec.vars false (#[.agg #[.slice none 0 0,.slice none 0 0,.int .i64 0],.slice none 0 0,.int .i64 0,.agg #[.int .i64 0,.int .i64 0],.int .i64 0,.slice none 0 0]:Array Value).toList 8=some ([.agg [.nil,.nil,.lit (.int .i64 0)],.nil,.lit (.int .i64 0),.agg [.lit (.int .i64 0),.lit (.int .i64 0)],.lit (.int .i64 0),.nil],[],places):=
 ⟨[],by kernel_rfl⟩
set_option maxRecDepth 100000 in
set_option maxHeartbeats 1000000 in
theorem contract (H:Type) (enc:TypeId × Value→H) (W:World) (base:Nat) (args:Array Value) (ds gs:List (DataW H)) (before:List MemPlace)
  (hval0:∀ (j:Nat) t v,Tryz.f3.params[j]?=some t→args[j]?=some v→Value.okWide Tryz.prog W .any base t v)
  (hW:DataW.Whole enc Tryz.prog Tryz.f3.params.toList Rows.drillRunsSpec.vars false W args.toList ds gs before) (hh:Handle W) (ss:∃ a,W.cell? ⟨0,0,none⟩=some (.iface 218 (.pointer (some a)))) :
  Calls Tryz.prog 3 args W fun e W'=>∃ v,e=.returned v∧Rows.drillRunsSpec.post enc Tryz.prog Tryz.f3 false true false false W args v W':=by
 have hval:=hval0
 have hW':=hW
 obtain ⟨p,q,hA0,hV,rfl,hfz,hnd⟩:=hW
 have hA:DataW.TrodAll enc Tryz.prog W 0 (fun _=>true) true Tryz.f3.params.toList args.toList ds p:=hA0
 rw [Tryz.params3] at hA hval
 obtain ⟨v0,vs0,d0,ds0,p0,q0,hargs,rfl,rfl,h0,r0⟩:=trodAll_cons hA
 obtain ⟨v1,vs1,d1,ds1,p1,q1,rfl,rfl,rfl,h1,r1⟩:=trodAll_cons r0
 obtain ⟨v2,vs2,d2,ds2,p2,q2,rfl,rfl,rfl,h2,r2⟩:=trodAll_cons r1
 obtain ⟨v3,vs3,d3,ds3,p3,q3,rfl,rfl,rfl,h3,r3⟩:=trodAll_cons r2
 obtain ⟨v4,vs4,d4,ds4,p4,q4,rfl,rfl,rfl,h4,r4⟩:=trodAll_cons r3
 obtain ⟨v5,vs5,d5,ds5,p5,q5,rfl,rfl,rfl,h5,r5⟩:=trodAll_cons r4
 obtain ⟨rfl,rfl,rfl⟩:=trodAll_nil r5
 obtain rfl:args=#[v0,v1,v2,v3,v4,v5]:=by cases args;simp_all
 obtain ⟨rfl,rfl⟩:=trodVars_none hV
 have k0:=h0
 have lt0:∀ x ∈ p0,x.block<W.heap.size:=by obtain ⟨m,hm⟩:=k0;exact DataW.trod_lt m _ _ _ hm
 have k1:=h1
 have lt1:∀ x ∈ p1,x.block<W.heap.size:=by obtain ⟨m,hm⟩:=k1;exact DataW.trod_lt m _ _ _ hm
 have k2:=h2
 have lt2:∀ x ∈ p2,x.block<W.heap.size:=by obtain ⟨m,hm⟩:=k2;exact DataW.trod_lt m _ _ _ hm
 have k3:=h3
 have lt3:∀ x ∈ p3,x.block<W.heap.size:=by obtain ⟨m,hm⟩:=k3;exact DataW.trod_lt m _ _ _ hm
 have k4:=h4
 have lt4:∀ x ∈ p4,x.block<W.heap.size:=by obtain ⟨m,hm⟩:=k4;exact DataW.trod_lt m _ _ _ hm
 have k5:=h5
 have lt5:∀ x ∈ p5,x.block<W.heap.size:=by obtain ⟨m,hm⟩:=k5;exact DataW.trod_lt m _ _ _ hm
 obtain ⟨a0,w0⟩:=open_galley_galleyref1_State (hval 0 25 v0 rfl rfl) h0
 obtain ⟨a1,w1⟩:=open_lBatch (hval 1 26 v1 rfl rfl) h1
 obtain ⟨a2,rfl,rfl,rfl,w2⟩:=open_int Tryz.underlying3 (hval 2 3 v2 rfl rfl) h2
 obtain ⟨a3,w3⟩:=open_Rates (hval 3 28 v3 rfl rfl) h3
 obtain ⟨a4,rfl,rfl,rfl,w4⟩:=open_int Tryz.underlying3 (hval 4 3 v4 rfl rfl) h4
 obtain ⟨a5,w5⟩:=open_lint (hval 5 29 v5 rfl rfl) h5
 clear hA0 hval0
 refine (walk a0 v0 a1 v1 a2 a3 v3 a4 a5 v5 W w0 w1 w2 w3 w4 w5 hh ss).mono fun e W' ⟨he,bel⟩=>?_
 subst he
 exact ⟨_,rfl,_,_,_,[],_,[],hW',trodAll_mk1 (shut_bool Tryz.underlying4 _),(trodAll_cons_mk (Below.trod laidOut (by kernel_rfl) (of_decide_eq_true (by kernel_rfl)) k0 bel lt0) (trodAll_cons_mk (Below.trod laidOut (by kernel_rfl) (of_decide_eq_true (by kernel_rfl)) k1 bel lt1) (trodAll_cons_mk (Below.trod laidOut (by kernel_rfl) (of_decide_eq_true (by kernel_rfl)) k2 bel lt2) (trodAll_cons_mk (Below.trod laidOut (by kernel_rfl) (of_decide_eq_true (by kernel_rfl)) k3 bel lt3) (trodAll_cons_mk (Below.trod laidOut (by kernel_rfl) (of_decide_eq_true (by kernel_rfl)) k4 bel lt4) (trodAll_cons_mk (Below.trod laidOut (by kernel_rfl) (of_decide_eq_true (by kernel_rfl)) k5 bel lt5) trodAll_mk0)))))),rfl,bel.frame _,fun h=>by cases h⟩
set_option maxRecDepth 100000 in
theorem lifted (os:Os) (started:os.Started) (H:Type) (enc:TypeId × Value→H) (F:Stop.Interp) :
  ReturnsInHanded {} Tryz.checked os 3 .any ((OpenSpec.ofChange Rows.drillRunsSpec).preRow enc Tryz.prog Tryz.f3 Rows.drillRunsRow.domain false Rows.drillRunsRow.laid) (((OpenSpec.ofChange Rows.drillRunsSpec).at F).post enc Tryz.prog Tryz.f3 false true false false):=by
 obtain ⟨places,hx⟩:=reads os enc
 refine returnsInHanded_of_row (C:=Tryz.checked) (s:=OpenSpec.ofChange Rows.drillRunsSpec) own started (by kernel_rfl) Tryz.func3
  (witness_row_atRef (enc:=enc) (C:=Tryz.checked) false (World.doorLaid Tryz.prog 400 os) #[.agg #[.slice none 0 0,.slice none 0 0,.int .i64 0],.slice none 0 0,.int .i64 0,.agg #[.int .i64 0,.int .i64 0],.int .i64 0,.slice none 0 0] rfl (by kernel_rfl) (by kernel_rfl) (by kernel_rfl)
   (OpenSpec.preRow_of_cond 8 hx (by kernel_rfl) (fun k hk=>by cases hk) (by kernel_rfl) (laid_met os))) ?_
 intro W base args ds gs before hval hW _ _ _ hL _ _
 exact contract H enc W base args ds gs before hval hW (handle_of_laid hL) (short_of_laid hL)
theorem said:Rows.DrillRunsSaid:=
 OpenClaim.holds_of_cond 3 Tryz.f3 rfl rfl rfl rfl rfl rfl rfl ⟨rfl,rfl,rfl,rfl,rfl⟩ rfl rfl rfl rfl rfl (by kernel_rfl) Tryz.func3 (by kernel_rfl)
  (of_decide_eq_true (by kernel_rfl)) (by unfold Func.isWrapper;first|(rw [if_pos (by decide +kernel)];kernel_rfl)|(rw [if_neg (by decide +kernel)];exact ⟨rfl,rfl⟩))
  (fun os started H enc _ F=>by rw [OpenClaim.pre_eq_preRow];exact lifted os started H enc F)
theorem plain (f:FuncId) (fn:Func) (hf:Tryz.pinned.checked.prog.funcNamed Rows.drillRunsRow.func=some f) (hfn:Tryz.pinned.checked.prog.funcs[f]?=some fn) :
  Rows.drillRunsCard.stood.looks=Tryz.pinned.checked.prog.looks []∧∀ (j:Nat) t,fn.params[j]?=some t→Tryz.pinned.checked.prog.wantsStandIn t=false:=by
 obtain rfl:f=3:=Option.some.inj ((show Tryz.prog.funcNamed Rows.drillRunsRow.func=some 3 by kernel_rfl).symm.trans hf) |>.symm
 obtain rfl:fn=Tryz.f3:=(Option.some.inj (Tryz.func3.symm.trans hfn)).symm
 refine ⟨by kernel_rfl,fun j t ht=>?_⟩
 rw [Tryz.params3] at ht
 have hm:=Array.mem_of_getElem? ht
 have hc:t=25∨t=26∨t=3∨t=28∨t=3∨t=29:=by simpa using hm
 rcases hc with rfl|rfl|rfl|rfl|rfl|rfl
 ·exact (show Tryz.prog.wantsStandIn 25=false by kernel_rfl)
 ·exact (show Tryz.prog.wantsStandIn 26=false by kernel_rfl)
 ·exact (show Tryz.prog.wantsStandIn 3=false by kernel_rfl)
 ·exact (show Tryz.prog.wantsStandIn 28=false by kernel_rfl)
 ·exact (show Tryz.prog.wantsStandIn 3=false by kernel_rfl)
 ·exact (show Tryz.prog.wantsStandIn 29=false by kernel_rfl)
theorem proved:Rows.DrillRunsCardSaid:=
 Claim7.holds_tied_plain_at .later [] _ _ _ _ said (fun _ h=>by cases h) (by kernel_rfl) (fun _ h=>by cases h) drillRuns_row_tie rfl ⟨rfl,rfl⟩ (by kernel_rfl) rfl plain (by kernel_rfl)
#print axioms proved
end Go.Proofs.YtchngeagnlngaaaGreatDoor.lawDrillRuns
