/- Texts joined: Drill3. -/
import Derived.Test.YtchngeagnlngaaaGreatDoorJ08
import Derived.Test.YtchngeagnlngaaaGreatDoorJ35
import Derived.Test.YtchngeagnlngaaaGreatDoorJ37
import Derived.Test.YtchngeagnlngaaaGreatDoorJ38
import Derived.Test.YtchngeagnlngaaaGreatDoorJ41
import Derived.Deep.LoopGhost
import Derived.WalkKit
set_option linter.unusedVariables false
set_option linter.unusedSimpArgs false
set_option linter.unusedSectionVars false
section
set_option maxRecDepth 100000
namespace Go.Proofs.YtchngeagnlngaaaGreatDoor
open Go.RowKit Gal Go.Maps
set_option maxHeartbeats 4000000
theorem CourseAt.farS {S:Nat→Prop} {w w':World} {cb mb:Nat} {al:Option Addr} {L kl:Nat} {p ln kp tries:Int} {Fs:List Int} (h:CourseAt w cb mb al L kl p ln kp tries Fs) (hf:Far S w w') (h1:¬ S cb) (h2:¬ S mb):CourseAt w' cb mb al L kl p ln kp tries Fs:=
 ⟨h.box.farS hf h1,h.map.block (hf.block mb h.map.lt h2)⟩
theorem store3 {W:World} {P:Nat} {x0 x1 x2:Value} {T:TypeId} (h:Box W P [x0,x1,x2] T) (v0 v1 v2:Value):∃ W',(((W.setCell ⟨P,0,none⟩ v0).setCell ⟨P,1,none⟩ v1).setCell ⟨P,2,none⟩ v2)=W'∧Box W' P [v0,v1,v2] T∧Far (isB P) W W':=
 ⟨_,rfl,((h.set 0 v0).set 1 v1).set 2 v2,(((Far.refl (isB P) W).st (a:=⟨P,0,none⟩) (fun _=>rfl) _).st (a:=⟨P,1,none⟩) (fun _=>rfl) _).st (a:=⟨P,2,none⟩) (fun _=>rfl) _⟩
theorem div_stays {q E:Nat} (hE:1≤E) (h:¬ (q+1) % E=0):(q+1) / E=q / E:=by
 have h1:=Nat.div_add_mod q E
 have h2:=Nat.div_add_mod (q+1) E
 have h3:=Nat.mod_lt q (show E > 0 by omega)
 have h4:=Nat.mod_lt (q+1) (show E > 0 by omega)
 rcases Nat.lt_trichotomy ((q+1) / E) (q / E) with g|g|g
 ·have:=Nat.mul_le_mul_left E (show (q+1) / E+1≤q / E by omega)
  rw [Nat.mul_succ] at this
  omega
 ·exact g
 ·have:=Nat.mul_le_mul_left E (show q / E+1≤(q+1) / E by omega)
  rw [Nat.mul_succ] at this
  omega
def two (P c b:Nat):Prop:=b=P∨b=c
theorem cell0_far {S:Nat→Prop} {w w':World} {v:Value} (h:w.cell? ⟨0,0,none⟩=some v) (hf:Far S w w') (hs:¬ S 0):w'.cell? ⟨0,0,none⟩=some v:=
 (World.cell?_of_block (a:=⟨0,0,none⟩) (hf.block 0 (World.block_lt_of_cell? _ _ h) hs)).trans h
def runFault (s:Sta) (l:List Bat) (p ln kp every:Int) (Fs:List Int):Int:=if drillFault s l.length every Fs≠0 then drillFault s l.length every Fs else allFt s l p ln kp l.length
theorem save_any (s:Sta) (F G:Nat→Prop) (a0 a1:Option Addr) (n n1 k0 k1 b0 b1 o0 o1:Nat) (w:World) (h0:RowAt Form.lay w F a0 n k0 b0 o0 s.N) (h1:RowAt Form.grd w G a1 n1 k1 b1 o1 s.V) (hf:s.fault=0) :
  Calls Tryz.prog 12 #[.agg #[.slice a0 n k0,.slice a1 n1 k1,.int .i64 s.steps]] w fun e w'=>∃ a m k b,e=.returned (.tuple #[.slice a m k,.nilIface])∧Below w.heap.size w w'∧RowAt Form.u8 w' (fun c=>w.heap.size≤c) a m k b 0 (staBytes s):=by
 refine (keepSave_ok s F G a0 a1 n n1 k0 k1 b0 b1 o0 o1 w h0 h1 hf).mono ?_
 rintro e w' ⟨v,err,rfl,hb,⟨h3,rfl,hr⟩|⟨h3,_⟩⟩
 ·obtain ⟨a,cap,b,rfl,_,hrow⟩:=hr.row (G:=fun c=>w.heap.size≤c) (fun b hb _=>hb.elim) (fun b hb=>hb)
  exact ⟨a,_,cap,b,rfl,hb,hrow⟩
 ·have:=staBytes_le hf
  omega
theorem load_back (s:Sta) (a:Option Addr) (L k b o:Nat) (F:Nat→Prop) (A:Addr) (w:World) (h:RowAt Form.u8 w F a L k b o (staBytes s)) (hg:w.cell? ⟨0,0,none⟩=some (.iface 218 (.pointer (some A)))) (hf:s.fault=0) :
  Calls Tryz.prog 13 #[.slice a L k] w fun e w'=>∃ a0 n k0 b0 o0 a1 n1 k1 b1 o1,e=.returned (.tuple #[.agg #[.slice a0 n k0,.slice a1 n1 k1,.int .i64 s.steps],.nilIface])∧Below w.heap.size w w'∧RowAt Form.lay w' (fun b=>w.heap.size≤b) a0 n k0 b0 o0 s.N∧RowAt Form.grd w' (fun b=>w.heap.size≤b) a1 n1 k1 b1 o1 s.V:=by
 refine (keepLoad_any (staBytes s) a L k b o A w (h.wide (fun _ _ _=>trivial)) hg).mono ?_
 rintro e w' ⟨hb,⟨hn,_⟩|⟨s',v,hs,rfl,a0,n,k0,b0,o0,a1,n1,k1,b1,o1,rfl,r0,r1⟩⟩
 ·rw [sta_back hf] at hn;cases hn
 ·rw [sta_back hf] at hs
  obtain rfl:=Option.some.inj hs
  exact ⟨a0,n,k0,b0,o0,a1,n1,k1,b1,o1,rfl,hb,r0,r1⟩
section
variable (s:Sta) (l:List Bat) (p ln kp every:Int) (Fs:List Int) (F G H:Nat→Prop) (a0 a1 al af:Option Addr) (n n1 k0 k1 b0 b1 o0 o1 L kl bl ol nf kf bf o2:Nat) (A:Addr) (w:World)
 (h0:RowAt Form.lay w F a0 n k0 b0 o0 s.N) (h1:RowAt Form.grd w G a1 n1 k1 b1 o1 s.V) (hl:RowAt Form.bat w H al L kl bl ol l) (hf:IntsAt w af nf kf bf o2 Fs) (hFw:∀ x ∈ Fs,-9223372036854775808≤x∧x≤9223372036854775807)
 (hh:Handle w) (hg:w.cell? ⟨0,0,none⟩=some (.iface 218 (.pointer (some A))))
include h0 h1 hl hf hFw hh hg
theorem run_bad (hd:drillFault s L every Fs≠0) :
    Calls Tryz.prog 5 #[.agg #[.slice a0 n k0,.slice a1 n1 k1,.int .i64 s.steps],.slice al L kl,.int .i64 p,.agg #[.int .i64 ln,.int .i64 kp],.int .i64 every,.slice af nf kf] w fun e w'=>∃ v c,e=.returned (.tuple #[v,.int .i64 c,errV (runFault s l p ln kp every Fs)])∧Below w.heap.size w w' ∧
       (runFault s l p ln kp every Fs=0→∃ t:Nat,c=(t:Int)∧TrySt every.toNat Fs L t∧¬ atK every.toNat Fs t<L∧StaUp w.heap.size w' v (allSt s l p ln kp L))∧(runFault s l p ln kp every Fs≠0→c=0∧v=.agg #[.slice none 0 0,.slice none 0 0,.int .i64 0])
  := by
  have hll:=hl.len
  have hlm:=hl.max
  unfold maxLen at hlm
  have HR:Hid (runFault s l p ln kp every Fs=drillFault s L every Fs):=Lib.hid (by unfold runFault;rw [hll,if_pos hd])
  have HE:Hid (errV (drillFault s L every Fs)=.iface 36 (.int .i64 (drillFault s L every Fs))):=Lib.hid (errV_err hd)
  have HD:=Lib.hid hd
  clear hd
  go_enter Tryz.func5,Tryz.ntmps5
  go_wp2_with fail
  refine (drillFault_any s L every Fs F G _ _ al _ _ _ _ _ _ _ _ _ kl _ _ _ _ _ (h0.alloc _ |>.alloc _ |>.alloc _) (h1.alloc _ |>.alloc _ |>.alloc _) (hf.alloc _ |>.alloc _ |>.alloc _) (by omega)).mono ?_
  rw [HE.out]
  rintro e w1 ⟨rfl,hb1⟩
  have B8:=((show Box _ (w.heap.size+1+1) [.slice none 0 0,.slice none 0 0,.int .i64 0] 30 from Box.x0)).keep hb1
  have B8c:=B8.cell
  have B8f:=B8.thawed
  have B8z:=B8.lt
  have B8k:=lt_add B8z
  have hbw:Below w.heap.size w w1:=(Below.x1 hb1)
  have B9:=((B8.set 0 (.slice none 0 0)).set 1 (.slice none 0 0)).set 2 (.int .i64 0)
  have z0:=B9.cell 0
  have z1:=B9.cell 1
  have z2:=B9.cell 2
  have HP:Hid (Below w.heap.size w (((w1.setCell ⟨w.heap.size+1+1,0,none⟩ (.slice none 0 0)).setCell ⟨w.heap.size+1+1,1,none⟩ (.slice none 0 0)).setCell ⟨w.heap.size+1+1,2,none⟩ (.int .i64 0))):=Lib.hid (((hbw.setCell (by dsimp only;omega) _).setCell (by dsimp only;omega) _).setCell (by dsimp only;omega) _)
  clear B9 h0 h1 hl hf hh hg
  go_wp2
  refine bodyPost_ret (v:=.tuple #[.agg #[.slice none 0 0,.slice none 0 0,.int .i64 0],.int .i64 0,.iface 36 (.int .i64 (drillFault s L every Fs))]) (by simp [results,Tryz.results5,go_sem,z0,z1,z2]) rfl ⟨_,_,by rw [HR.out,HE.out],HP.out,fun h=>absurd (HR.out.symm.trans h) HD.out,fun _=>⟨rfl,rfl⟩⟩
theorem run_ok (hd:drillFault s L every Fs=0) :
    Calls Tryz.prog 5 #[.agg #[.slice a0 n k0,.slice a1 n1 k1,.int .i64 s.steps],.slice al L kl,.int .i64 p,.agg #[.int .i64 ln,.int .i64 kp],.int .i64 every,.slice af nf kf] w fun e w'=>∃ v c,e=.returned (.tuple #[v,.int .i64 c,errV (runFault s l p ln kp every Fs)])∧Below w.heap.size w w' ∧
       (runFault s l p ln kp every Fs=0→∃ t:Nat,c=(t:Int)∧TrySt every.toNat Fs L t∧¬ atK every.toNat Fs t<L∧StaUp w.heap.size w' v (allSt s l p ln kp L))∧(runFault s l p ln kp every Fs≠0→c=0∧v=.agg #[.slice none 0 0,.slice none 0 0,.int .i64 0])
  := by
  have hll:=hl.len
  have hlm:=hl.max
  unfold maxLen at hlm
  have hfl:=hf.len
  replace h0:=h0.wide (G:=fun b=>b<w.heap.size) (fun b _ h=>h)
  replace h1:=h1.wide (G:=fun b=>b<w.heap.size) (fun b _ h=>h)
  replace hl:=hl.wide (G:=fun b=>b<w.heap.size) (fun b _ h=>h)
  have hfb:=hf.lt
  have hnm:=hf.max
  unfold maxLen at hnm
  have HGZ:Hid (1<w.heap.size∧0<w.heap.size):=Lib.hid ⟨hh.lt,World.block_lt_of_cell? w _ hg⟩
  obtain ⟨hL20,hE1,hE20,hF20,hFz,hsf,hst⟩:=drillFault_ok hd
  have HR:Hid (runFault s l p ln kp every Fs=allFt s l p ln kp L):=Lib.hid (by unfold runFault;rw [hll,if_neg (by simp [hd])])
  have HE:Hid (errV (drillFault s L every Fs)=.nilIface):=Lib.hid (errV_nil hd)
  obtain ⟨E,hE⟩:∃ E:Nat,every.toNat=E:=⟨_,rfl⟩
  have heE:every=(E:Int):=by omega
  subst heE
  have hEn1:1≤E:=by omega
  have hEn20:E≤20:=by omega
  have HEN:=Lib.hid hE
  have HFZ:=Lib.hid hFz
  have HSF:=Lib.hid hsf
  have HST:=Lib.hid hst
  have HFW:=Lib.hid hFw
  have HFL:=Lib.hid hfl
  have HF20:=Lib.hid hF20
  clear hd hE hE1 hE20 hFz hsf hst hFw hfl hF20
  go_enter Tryz.func5,Tryz.ntmps5
  go_wp2_with fail
  refine (drillFault_any s L E Fs _ _ _ _ al _ _ _ _ _ _ _ _ _ kl _ _ _ _ _ (h0.alloc _ |>.alloc _ |>.alloc _) (h1.alloc _ |>.alloc _ |>.alloc _) (hf.alloc _ |>.alloc _ |>.alloc _) (by omega)).mono ?_
  rw [HE.out]
  rintro e w1 ⟨rfl,hb1⟩
  have B6:=((show Box _ w.heap.size [.slice a0 n k0,.slice a1 n1 k1,.int .i64 s.steps] 30 from Box.x0)).keep hb1
  have B6c:=B6.cell
  have B6f:=B6.thawed
  have B6z:=B6.lt
  have B6k:=lt_add B6z
  have B7:=((show Box _ (w.heap.size+1) [.int .i64 ln,.int .i64 kp] 28 from Box.x0)).keep hb1
  have B7c:=B7.cell
  have B7f:=B7.thawed
  have B7z:=B7.lt
  have B7k:=lt_add B7z
  have B8:=((show Box _ (w.heap.size+1+1) [.slice none 0 0,.slice none 0 0,.int .i64 0] 30 from Box.x0)).keep hb1
  have B8c:=B8.cell
  have B8f:=B8.thawed
  have B8z:=B8.lt
  have B8k:=lt_add B8z
  have hbw:Below w.heap.size w w1:=(Below.x1 hb1)
  have hz1:=hbw.size
  obtain ⟨mb,hmb⟩:∃ mb,w1.heap.size=mb:=⟨_,rfl⟩
  obtain ⟨wA,hwA⟩:∃ wA,(w1.alloc (.map #[] 0)).alloc (.cells #[.slice al L kl,.int .i64 p,.int .i64 ln,.int .i64 kp,.map (some mb),.int .i64 0] 52)=wA:=⟨_,rfl⟩
  have hb1A:Below w1.heap.size w1 wA:=by rw [← hwA];exact Below.x0
  have hbA:Below w.heap.size w wA:=hbw.trans (hb1A.mono hz1)
  have CA:CourseAt wA (mb+1) mb al L kl p ln kp 0 []:=by
    rw [← hwA]
    subst hmb
    exact ⟨Box.new' _ _ _ _ (by simp),(MapV.new w1).alloc _⟩
  have hzA:=hbA.size
  have hmbz:w.heap.size+1+1<mb:=by rw [← hmb];exact B8.lt
  have A6:=B6.keep hb1A
  have A8:=B8.keep hb1A
  have h0A:=h0.keep hbA
  have h1A:=h1.keep hbA
  have hlA:=hl.keep hbA
  have hfA:=hf.keep hbA
  have hhA:=hh.keep hbA
  have hgA:wA.cell? ⟨0,0,none⟩=some (.iface 218 (.pointer (some A))):=(hbA.cell (p:=⟨0,0,none⟩) (World.block_lt_of_cell? w _ hg)).trans hg
  have hmm:=@run_makeMap Tryz.prog
  have b70:=B7.cell 0
  have b71:=B7.cell 1
  have z7:=B7.lt
  clear B6 B8 h0 h1 hl hf hh hg hb1
  go_wp2
  try rw [hwA]
  go_loopw [43] (fun i wr=>∃ t:Nat,t≤nf∧i=.int .i64 t∧CourseAt wr (mb+1) mb al L kl p ln kp 0 (Fs.take t)∧Far (isB mb) wA wr) (fun i _=>nf - (intOf i).toNat)
  case atStart=>exact ⟨0,Nat.zero_le _,rfl,CA,Far.refl _ _⟩
  case round=>
    obtain ⟨t,ht,rfl,CB,hfr⟩:=hrel
    by_cases hlt:t<nf
    · have hft:=ints_farS hfA hfr (fun h8 h9=>by have:=hfb h8;unfold isB at h9;omega)
      obtain rfl:=hft.ptr (by omega)
      have hc:=hft.cell t hlt
      obtain ⟨x,hx⟩:∃ x,ix Fs t=x:=⟨_,rfl⟩
      have HX:=Lib.hid hx
      rw [hx] at hc
      have c4:=CB.box.cell 4
      have hnew:∀ q ∈ setOf (Fs.take t),q.1≠x:=fun q hq e=>by
        obtain ⟨f,hf1,rfl⟩:=List.mem_map.1 hq
        exact falls_new HFZ.out (by rw [HFL.out];exact hlt) f hf1 (by rw [HX.out];exact e)
      obtain ⟨w2,hup,hm2,ho2⟩:=CB.map.update int_keysD Tryz.underlying50 kfI_inj (kfI_of (x:=x) (HFW.out x (by rw [← HX.out];unfold ix;rw [List.getElem?_eq_getElem (by rw [HFL.out];exact hlt)];exact List.getElem_mem _))) hnew (.agg #[])
      unfold kfI at hup
      have hset:setOf (Fs.take (t+1))=setOf (Fs.take t)++[(x,.agg #[])]:=by
        rw [List.take_add_one,List.getElem?_eq_getElem (by rw [HFL.out];exact hlt)]
        unfold setOf
        rw [List.map_append]
        congr 1
        have:Fs[t]'(by rw [HFL.out];exact hlt)=x:=by rw [← HX.out];unfold ix;rw [List.getElem?_eq_getElem (by rw [HFL.out];exact hlt)];rfl
        simp [this]
      have HNX:=Lib.hid (show CourseAt w2 (mb+1) mb al L kl p ln kp 0 (Fs.take (t+1))∧Far (isB mb) wA w2 from
        ⟨⟨Box.only CB.box ho2 CB.ne,by rw [hset];exact hm2⟩,hfr.grown ho2.1 (fun k hk _=>by cases hk;exact rfl)⟩)
      clear hx hnew hset hm2 ho2 CB hfr
      go_wp2
      go_roundw
      case rel=>exact ⟨t+1,by omega,by go_num,HNX.out.1,HNX.out.2⟩
      case measure=>simp [intOf];omega
    · obtain rfl:t=nf:=by omega
      rw [show Fs.take t=Fs from List.take_of_length_le (by rw [HFL.out];exact Nat.le_refl _)] at CB
      have hno:∀ b,b<w.heap.size→b<wA.heap.size→¬ isB mb b:=fun b hb _ h9=>by unfold isB at h9;omega
      have h0B:=h0A.farS hfr hno
      have h1B:=h1A.farS hfr hno
      have hlB:=hlA.farS hfr hno
      have B6:=A6.farS hfr (fun h9:w.heap.size=mb=>by omega)
      have B8:=A8.farS hfr (fun h9:w.heap.size+1+1=mb=>by omega)
      have hgz:=World.block_lt_of_cell? _ _ hgA
      have hhB:=hhA.farS hfr (fun h9:1=mb=>by have:=HGZ.out.1;omega)
      have hgB:wr.cell? ⟨0,0,none⟩=some (.iface 218 (.pointer (some A))):=(World.cell?_of_block (a:=⟨0,0,none⟩) (hfr.block 0 hgz (fun h9:0=mb=>by omega))).trans hgA
      have hbB:Below w.heap.size w wr:=Far.toBelow hbA hfr (by omega) (fun k e=>by unfold isB at e;omega)
      have hzB:=hfr.size
      have hcz:=CB.box.lt
      clear h0A h1A hlA hfA A6 A8 hhA hgA CA hfr hno B7 b70 b71
      have c60:=B6.cell 0
      have c61:=B6.cell 1
      have c62:=B6.cell 2
      go_wp2_with fail
      refine (save_any s _ _ _ _ _ _ _ _ _ _ _ _ _ h0B h1B HSF.out).mono ?_
      rintro e w3 ⟨aK,mK,kK,bK,rfl,hb3,hK⟩
      have hz3:=hb3.size
      have hg3:w3.cell? ⟨0,0,none⟩=some (.iface 218 (.pointer (some A))):=(hb3.cell (p:=⟨0,0,none⟩) (World.block_lt_of_cell? _ _ hgB)).trans hgB
      go_wp2_with fail
      refine (load_back s aK mK kK bK 0 _ A _ hK hg3 HSF.out).mono ?_
      rintro e w4 ⟨a4,n4,k4,b4,o4,a5,n5,k5,b5,o5,rfl,hb4,r4,r5⟩
      have hz4:=hb4.size
      have hb34:Below wr.heap.size wr w4:=hb3.trans (hb4.mono hz3)
      have D6:=B6.keep hb34
      have D8:=B8.keep hb34
      have e60:=D6.cell 0
      have e61:=D6.cell 1
      have e62:=D6.cell 2
      have f60:=D6.thawed 0
      have f61:=D6.thawed 1
      have f62:=D6.thawed 2
      obtain ⟨wC,hwC⟩:∃ wC,(((w4.setCell ⟨w.heap.size,0,none⟩ (.slice a4 n4 k4)).setCell ⟨w.heap.size,1,none⟩ (.slice a5 n5 k5)).setCell ⟨w.heap.size,2,none⟩ (.int .i64 s.steps))=wC:=⟨_,rfl⟩
      have hfC:Far (isB w.heap.size) w4 wC:=by rw [← hwC];exact (((Far.refl (isB w.heap.size) w4).st (a:=⟨w.heap.size,0,none⟩) (fun _=>rfl) _).st (a:=⟨w.heap.size,1,none⟩) (fun _=>rfl) _).st (a:=⟨w.heap.size,2,none⟩) (fun _=>rfl) _
      have X6:Box wC w.heap.size [.slice a4 n4 k4,.slice a5 n5 k5,.int .i64 s.steps] 30:=by rw [← hwC];exact ((D6.set 0 _).set 1 _).set 2 _
      have X8:=D8.farS hfC (fun h9:w.heap.size+1+1=w.heap.size=>by omega)
      have XC:CourseAt wC (mb+1) mb al L kl p ln kp 0 Fs:=by
        rw [← hwC]
        exact (((CB.keep hb34).far (by dsimp only;omega) (by dsimp only;omega) _).far (by dsimp only;omega) (by dsimp only;omega) _).far (by dsimp only;omega) (by dsimp only;omega) _
      have hnw:∀ b,b<w.heap.size→b<w4.heap.size→¬ isB w.heap.size b:=fun b hb _ h9=>by unfold isB at h9;omega
      have XL:=(hlB.keep hb34).farS hfC hnw
      have XK:=((hK.keep hb4).farS hfC (fun c hc _ h9=>by have h8:wr.heap.size≤c:=hc;unfold isB at h9;omega)).wide (G:=fun c=>mb+1<c) (fun c hc _=>by have h8:wr.heap.size≤c:=hc;omega)
      have X4:=(r4.farS hfC (fun c hc _ h9=>by have h8:w3.heap.size≤c:=hc;unfold isB at h9;omega)).wide (G:=fun c=>mb+1<c) (fun c hc _=>by have h8:w3.heap.size≤c:=hc;omega)
      have X5:=(r5.farS hfC (fun c hc _ h9=>by have h8:w3.heap.size≤c:=hc;unfold isB at h9;omega)).wide (G:=fun c=>mb+1<c) (fun c hc _=>by have h8:w3.heap.size≤c:=hc;omega)
      have hhC:Handle wC:=(hhB.keep hb34).farS hfC (fun h9:1=w.heap.size=>by have:=HGZ.out.1;omega)
      have hgC:wC.cell? ⟨0,0,none⟩=some (.iface 218 (.pointer (some A))):=(World.cell?_of_block (a:=⟨0,0,none⟩) (hfC.block 0 (World.block_lt_of_cell? _ _ ((hb34.cell (p:=⟨0,0,none⟩) (World.block_lt_of_cell? _ _ hgB)).trans hgB)) (fun h9:0=w.heap.size=>by have:=HGZ.out.2;omega))).trans ((hb34.cell (p:=⟨0,0,none⟩) (World.block_lt_of_cell? _ _ hgB)).trans hgB)
      have hbC:Below w.heap.size w wC:=Far.toBelow (hbB.trans (hb34.mono hbB.size)) hfC (by omega) (fun k e=>by unfold isB at e;omega)
      clear h0B h1B hlB B6 B8 hhB hgB hbB CB c60 c61 c62 hb3 hb4 hb34 hK r4 r5 D6 D8 hfC hnw hg3 hgz
      go_wp2
      try rw [hwC]
      have hcb:=XC.box.lt
      have hz8:=X8.lt
      go_loopg [19,21,22] (L+401) (fun g kp' sf at' wx=>∃ (t q r:Nat) (X Y:Sta) (aK:Option Addr) (mK kK bK:Nat) (c0 c1:Option Addr) (m0 m1 l0 l1 d0 d1 p0 p1:Nat),t+g=L+401∧kp'=.slice aK mK kK∧sf=.int .i64 r∧at'=.int .i64 q ∧
        Hid (TrySt E Fs L t∧q=atK E Fs t∧r=q / E*E∧X=allSt s l p ln kp q∧Y=allSt s l p ln kp r∧allFt s l p ln kp q=0) ∧
        RowAt Form.u8 wx (fun c=>mb+1<c) aK mK kK bK 0 (staBytes Y)∧Box wx w.heap.size [.slice c0 m0 l0,.slice c1 m1 l1,.int .i64 X.steps] 30∧RowAt Form.lay wx (fun c=>mb+1<c) c0 m0 l0 d0 p0 X.N∧RowAt Form.grd wx (fun c=>mb+1<c) c1 m1 l1 d1 p1 X.V∧CourseAt wx (mb+1) mb al L kl p ln kp (t:Int) Fs∧Far (two w.heap.size (mb+1)) wC wx)
      case atStart=>exact ⟨0,0,0,s,s,aK,mK,kK,bK,a4,a5,n4,n5,k4,k5,b4,b5,o4,o5,by omega,rfl,rfl,rfl,Lib.hid ⟨TrySt.start E Fs L,rfl,by simp,rfl,rfl,rfl⟩,XK,X6,X4,X5,XC,Far.refl _ _⟩
      case round=>
        clear X6 X4 X5 XK e60 e61 e62 f60 f61 f62
        obtain ⟨t,q,r,X,Y,aK,mK,kK,bK,c0,c1,m0,m1,l0,l1,d0,d1,p0,p1,htg,rfl,rfl,rfl,HQ,YK,Y6,Y4,Y5,YC,hfr⟩:=hrel
        have hrq:r≤q:=by rw [HQ.out.2.2.1];exact Nat.div_mul_le_self _ _
        have hqL:q≤L:=by rw [HQ.out.2.1];exact HQ.out.1.1
        have ht4:t≤L+400:=HQ.out.1.small hEn1 hEn20 HF20.out
        have HXF:Hid (X.fault=0∧Y.fault=0):=Lib.hid ⟨by rw [HQ.out.2.2.2.1];exact all_fits HSF.out HST.out q (by omega) HQ.out.2.2.2.2.2,by rw [HQ.out.2.2.2.2.1];exact all_fits HSF.out HST.out r (by omega) (allFt_less hrq HQ.out.2.2.2.2.2)⟩
        have hzr:=hfr.size
        have hz6:=Y6.lt
        have hrL:=XL.farS hfr (fun b hb _ h9=>by rcases h9 with h9|h9 <;> omega)
        have hrh:=hhC.farS hfr (fun h9=>by have:=HGZ.out.1;rcases h9 with h9|h9 <;> omega)
        have hrg:=cell0_far hgC hfr (fun h9=>by have:=HGZ.out.2;rcases h9 with h9|h9 <;> omega)
        have hr8:=X8.farS hfr (fun h9=>by rcases h9 with h9|h9 <;> omega)
        have hbr:Below w.heap.size w wr:=Far.toBelow hbC hfr (by omega) (fun k h9=>by rcases h9 with h9|h9 <;> omega)
        have HBR:=Lib.hid hbr
        have HFR:=Lib.hid hfr
        have y60:=Y6.cell 0
        have y61:=Y6.cell 1
        have y62:=Y6.cell 2
        clear hbr hfr XL hhC hgC X8 XC hbC
        cases gk with
        | zero=>exact absurd htg (by omega)
        | succ g'=>
        by_cases hlt:q<L
        · by_cases hfl:fellAt Fs (t+1)=true
          · obtain ⟨ti,hti⟩:∃ ti:Int,((t+1:Nat):Int)=ti:=⟨_,rfl⟩
            have HTI:=Lib.hid hti
            have HFL2:=Lib.hid hfl
            have HTF:=try_fell c0 c1 m0 m1 l0 l1 X.steps (q:Int) t YC (by omega) hfl
            rw [hti] at HTF
            clear hti hfl
            go_wp2_with fail
            refine HTF.mono ?_
            rintro e w5 ⟨rfl,V5,hf5⟩
            clear HTF
            have hz5:=hf5.size
            have hh5:=hrh.farS hf5 (fun h9:1=mb+1=>by have:=HGZ.out.1;omega)
            have hg5:=cell0_far hrg hf5 (fun h9:0=mb+1=>by omega)
            go_wp2_with fail
            refine (fa_hit ti ⟨_,0,none⟩ (.int .i64 0) _ (hh5.keep Below.x0) (by simp) (by simp)).mono ?_
            rintro e w6 ⟨rfl,hw6⟩
            have hb6:Below w5.heap.size w5 w6:=by rw [hw6];exact Below.x0
            clear hw6
            have hz6b:=hb6.size
            have hf6:Far (isB (mb+1)) wr w6:=hf5.trans (Far.of_below hb6)
            have YK6:=YK.farS hf6 (fun c hc _ h9=>by have h8:mb+1<c:=hc;unfold isB at h9;omega)
            have hg6:=cell0_far hrg hf6 (fun h9:0=mb+1=>by omega)
            have Y66:=Y6.farS hf6 (fun h9:w.heap.size=mb+1=>by omega)
            have HP6:=Lib.hid (And.intro hf6 (V5.keep hb6))
            clear hf6 hf5 hh5 hg5 hb6 V5 Y6 Y4 Y5 YC YK y60 y61 y62 hrL hrh hrg
            go_wp2_with fail
            refine (load_back Y aK mK kK bK 0 _ A _ YK6 hg6 HXF.out.2).mono ?_
            rintro e w7 ⟨a7,n7,k7,b7,o7,a9,n9,k9,b9,o9,rfl,hb7,r7,r9⟩
            have hz7:=hb7.size
            have Z6:=Y66.keep hb7
            have z60:=Z6.cell 0
            have z61:=Z6.cell 1
            have z62:=Z6.cell 2
            have g60:=Z6.thawed 0
            have g61:=Z6.thawed 1
            have g62:=Z6.thawed 2
            obtain ⟨wD,hwD,XD,hfD⟩:=store3 Z6 (.slice a7 n7 k7) (.slice a9 n9 k9) (.int .i64 Y.steps)
            have hfall:Far (two w.heap.size (mb+1)) wC wD:=(HFR.out.trans ((HP6.out.1.wide (fun k _ h=>Or.inr h)).trans (Far.of_below hb7))).trans (hfD.wide (fun k _ h=>Or.inl h))
            have hnd:∀ c,mb+1<c→¬ isB w.heap.size c:=fun c hc h9=>by unfold isB at h9;omega
            have HN:=Lib.hid (show TrySt E Fs L (t+1)∧r=atK E Fs (t+1)∧r=r / E*E∧Y=allSt s l p ln kp r∧Y=allSt s l p ln kp r∧allFt s l p ln kp r=0 from by
              have hq2:=HQ.out.2.1
              have hr2:=HQ.out.2.2.1
              refine ⟨HQ.out.1.next hEn1 (by omega),by rw [atK_fell HFL2.out,← hq2];exact hr2,?_,HQ.out.2.2.2.2.1,HQ.out.2.2.2.2.1,allFt_less hrq HQ.out.2.2.2.2.2⟩
              rw [hr2,Nat.mul_div_cancel _ (by omega)])
            have HREL:=Lib.hid (show RowAt Form.u8 wD (fun c=>mb+1<c) aK mK kK bK 0 (staBytes Y)∧RowAt Form.lay wD (fun c=>mb+1<c) a7 n7 k7 b7 o7 Y.N∧RowAt Form.grd wD (fun c=>mb+1<c) a9 n9 k9 b9 o9 Y.V∧CourseAt wD (mb+1) mb al L kl p ln kp ((t+1:Nat):Int) Fs∧Far (two w.heap.size (mb+1)) wC wD from
              ⟨(YK6.keep hb7).farS hfD (fun c hc _=>hnd c hc),(r7.farS hfD (fun c hc _=>hnd c (by have h8:w6.heap.size≤c:=hc;omega))).wide (fun c hc _=>by have h8:w6.heap.size≤c:=hc;show mb+1<c;omega),
                (r9.farS hfD (fun c hc _=>hnd c (by have h8:w6.heap.size≤c:=hc;omega))).wide (fun c hc _=>by have h8:w6.heap.size≤c:=hc;show mb+1<c;omega),by rw [HTI.out];exact (HP6.out.2.keep hb7).farS hfD (fun h9:mb+1=w.heap.size=>by omega) (fun h9:mb=w.heap.size=>by omega),hfall⟩)
            have HXD:=Lib.hid XD
            clear YK6 hg6 Y66 hb7 r7 r9 Z6 XD hfD hfall hnd hr8 HP6
            go_wp2
            try rw [hwD]
            go_roundg g'
            case measure=>omega
            case rel=>exact ⟨t+1,r,r,Y,Y,aK,mK,kK,bK,a7,a9,n7,n9,k7,k9,b7,b9,o7,o9,by omega,rfl,rfl,rfl,HN,HREL.out.1,HXD.out,HREL.out.2.1,HREL.out.2.2.1,HREL.out.2.2.2.1,HREL.out.2.2.2.2⟩
          · have hfl':fellAt Fs (t+1)=false:=by simpa using hfl
            obtain ⟨ti,hti⟩:∃ ti:Int,((t+1:Nat):Int)=ti:=⟨_,rfl⟩
            have HTI:=Lib.hid hti
            have HFL2:=Lib.hid hfl
            have hne:∀ c,mb+1<c→c≠mb+1:=fun c hc=>by omega
            have HTW:=try_went X l c0 c1 m0 m1 l0 l1 d0 d1 p0 p1 bl ol q t YC (by omega) hfl' (Y4.wide (fun c hc _=>hne c hc)) (Y5.wide (fun c hc _=>hne c hc)) (hrL.wide (fun c hc _=>by omega)) hlt
            rw [hti] at HTW
            obtain ⟨f,hf⟩:∃ f,oneFault X (bx l q) p ln kp=f:=⟨_,rfl⟩
            have HF:=Lib.hid hf
            rw [hf] at HTW
            clear hti hfl hfl' hf hne
            go_wp2_with fail
            refine HTW.mono ?_
            rintro e w5 ⟨v,rfl,V5,hf5,hN,hN'⟩
            clear HTW
            have hz5:=hf5.size
            have hh5:=hrh.farS hf5 (fun h9:1=mb+1=>by have:=HGZ.out.1;omega)
            by_cases hf0:f=0
            · obtain ⟨a7,n7,k7,b7,a9,n9,k9,b9,rfl,r7,r9⟩:=hN hf0
              rw [errV_nil hf0]
              have HF0:=Lib.hid hf0
              obtain ⟨S',hS'⟩:∃ S',oneOf X (bx l q) p ln kp=S':=⟨_,rfl⟩
              have HS':=Lib.hid hS'
              rw [hS'] at r7 r9 ⊢
              clear hf0 hN hN' hS'
              go_wp2_with fail
              refine (fa_nil ⟨_,0,none⟩ _).mono ?_
              rintro e w6 ⟨rfl,rfl⟩
              obtain ⟨w6,hw6⟩:∃ w6,(w5.alloc (.cells #[.slice a7 n7 k7,.slice a9 n9 k9,.int .i64 S'.steps] 30)).alloc (.cells #[.int .i64 0] 61)=w6:=⟨_,rfl⟩
              have hb6:Below w5.heap.size w5 w6:=by rw [← hw6];exact Below.x0
              have T6:Box w6 w5.heap.size [.slice a7 n7 k7,.slice a9 n9 k9,.int .i64 S'.steps] 30:=by rw [← hw6];exact (Box.new w5 _ _).alloc _
              have hz6b:=hb6.size
              have hf6:Far (isB (mb+1)) wr w6:=hf5.trans (Far.of_below hb6)
              have YK6:=YK.farS hf6 (fun c hc _ h9=>by have h8:mb+1<c:=hc;unfold isB at h9;omega)
              have hg6:=cell0_far hrg hf6 (fun h9:0=mb+1=>by omega)
              have Y66:=Y6.farS hf6 (fun h9:w.heap.size=mb+1=>by omega)
              have t60:=T6.cell 0
              have t61:=T6.cell 1
              have t62:=T6.cell 2
              have z60:=Y66.cell 0
              have z61:=Y66.cell 1
              have z62:=Y66.cell 2
              have g60:=Y66.thawed 0
              have g61:=Y66.thawed 1
              have g62:=Y66.thawed 2
              obtain ⟨wD,hwD,XD,hfD⟩:=store3 Y66 (.slice a7 n7 k7) (.slice a9 n9 k9) (.int .i64 S'.steps)
              have hfall:Far (two w.heap.size (mb+1)) wC wD:=(HFR.out.trans (hf6.wide (fun k _ h=>Or.inr h))).trans (hfD.wide (fun k _ h=>Or.inl h))
              have hnd:∀ c,mb+1<c→¬ isB w.heap.size c:=fun c hc h9=>by unfold isB at h9;omega
              have hnew:∀ c,newB wr.heap.size c→mb+1<c:=fun c hc=>by unfold newB at hc;omega
              have RK:=YK6.farS hfD (fun c hc _=>hnd c hc)
              have R7:=((r7.keep hb6).farS hfD (fun c hc _=>hnd c (hnew c hc))).wide (G:=fun c=>mb+1<c) (fun c hc _=>hnew c hc)
              have R9:=((r9.keep hb6).farS hfD (fun c hc _=>hnd c (hnew c hc))).wide (G:=fun c=>mb+1<c) (fun c hc _=>hnew c hc)
              have HQ2:Hid (allFt s l p ln kp (q+1)=0∧S'=allSt s l p ln kp (q+1)∧q+1=atK E Fs (t+1)∧TrySt E Fs L (t+1)):=Lib.hid
                ⟨by rw [allFt_next HQ.out.2.2.2.2.2,← HQ.out.2.2.2.1,HF.out];exact HF0.out,by rw [← HS'.out,HQ.out.2.2.2.1];rfl,by rw [atK_went HFL2.out,← HQ.out.2.1],HQ.out.1.next hEn1 (by rw [← HQ.out.2.1];exact hlt)⟩
              have HSF2:Hid (S'.fault=0):=Lib.hid (by rw [HQ2.out.2.1];exact all_fits HSF.out HST.out (q+1) (by omega) HQ2.out.1)
              have HCD:=Lib.hid (show CourseAt wD (mb+1) mb al L kl p ln kp ((t+1:Nat):Int) Fs∧Far (two w.heap.size (mb+1)) wC wD from ⟨by rw [HTI.out];exact (V5.keep hb6).farS hfD (fun h9:mb+1=w.heap.size=>by omega) (fun h9:mb=w.heap.size=>by omega),hfall⟩)
              have hEz:((E:Int)=0)=False:=by simp;omega
              have hq0:(0:Int)≤(q:Int):=by omega
              have x60:=XD.cell 0
              have x61:=XD.cell 1
              have x62:=XD.cell 2
              have HXD:=Lib.hid XD
              have hzD:=hfD.size
              clear hf5 hh5 hb6 V5 Y6 Y4 Y5 YC YK y60 y61 y62 hrL hrh hrg T6 hf6 YK6 hg6 Y66 XD hfD hfall hnd hnew r7 r9 hr8
              by_cases hm:(q+1) % E=0
              · have hmI:((q:Int)+1) % (E:Int)=0:=by exact_mod_cast hm
                have hmT:Int.tmod ((q:Int)+1) (E:Int)=0:=by rw [Int.tmod_eq_emod_of_nonneg (by omega)];exact hmI
                have HM:=Lib.hid hm
                clear hm
                go_wp2_with fail
                refine (save_any S' _ _ _ _ _ _ _ _ _ _ _ _ _ R7 R9 HSF2.out).mono ?_
                rintro e w7 ⟨aN,mN,kN,bN,rfl,hb7,rK⟩
                have hz7:=hb7.size
                have HREL:=Lib.hid (show RowAt Form.u8 w7 (fun c=>mb+1<c) aN mN kN bN 0 (staBytes S')∧Box w7 w.heap.size [.slice a7 n7 k7,.slice a9 n9 k9,.int .i64 S'.steps] 30∧RowAt Form.lay w7 (fun c=>mb+1<c) a7 n7 k7 b7 0 S'.N∧RowAt Form.grd w7 (fun c=>mb+1<c) a9 n9 k9 b9 0 S'.V∧CourseAt w7 (mb+1) mb al L kl p ln kp ((t+1:Nat):Int) Fs∧Far (two w.heap.size (mb+1)) wC w7 from
                  ⟨rK.wide (fun c hc _=>by have h8:wD.heap.size≤c:=hc;show mb+1<c;omega),HXD.out.keep hb7,R7.keep hb7,R9.keep hb7,HCD.out.1.keep hb7,HCD.out.2.trans (Far.of_below hb7)⟩)
                have HN:=Lib.hid (show TrySt E Fs L (t+1)∧q+1=atK E Fs (t+1)∧q+1=(q+1) / E*E∧S'=allSt s l p ln kp (q+1)∧S'=allSt s l p ln kp (q+1)∧allFt s l p ln kp (q+1)=0 from
                  ⟨HQ2.out.2.2.2,HQ2.out.2.2.1,by
                    have h1:=Nat.div_add_mod (q+1) E
                    rw [HM.out,Nat.mul_comm] at h1
                    omega,HQ2.out.2.1,HQ2.out.2.1,HQ2.out.1⟩)
                clear hb7 rK R7 R9 RK
                go_wp2
                go_roundg g'
                case measure=>omega
                case rel=>exact ⟨t+1,q+1,q+1,S',S',aN,mN,kN,bN,a7,a9,n7,n9,k7,k9,b7,b9,0,0,by omega,rfl,by go_num,by go_num,HN,HREL.out.1,HREL.out.2.1,HREL.out.2.2.1,HREL.out.2.2.2.1,HREL.out.2.2.2.2.1,HREL.out.2.2.2.2.2⟩
              · have hmI:¬ ((q:Int)+1) % (E:Int)=0:=fun h=>hm (by exact_mod_cast h)
                have hmT:¬ Int.tmod ((q:Int)+1) (E:Int)=0:=by rw [Int.tmod_eq_emod_of_nonneg (by omega)];exact hmI
                have HN:=Lib.hid (show TrySt E Fs L (t+1)∧q+1=atK E Fs (t+1)∧r=(q+1) / E*E∧S'=allSt s l p ln kp (q+1)∧Y=allSt s l p ln kp r∧allFt s l p ln kp (q+1)=0 from
                  ⟨HQ2.out.2.2.2,HQ2.out.2.2.1,by rw [div_stays hEn1 hm];exact HQ.out.2.2.1,HQ2.out.2.1,HQ.out.2.2.2.2.1,HQ2.out.1⟩)
                have HREL:=Lib.hid (And.intro RK (And.intro R7 R9))
                clear hm R7 R9 RK
                go_wp2
                try rw [hwD]
                go_roundg g'
                case measure=>omega
                case rel=>exact ⟨t+1,q+1,r,S',Y,aK,mK,kK,bK,a7,a9,n7,n9,k7,k9,b7,b9,0,0,by omega,rfl,rfl,by go_num,HN,HREL.out.1,HXD.out,HREL.out.2.1,HREL.out.2.2,HCD.out.1,HCD.out.2⟩
            · have HE2:Hid (errV f=.iface 36 (.int .i64 f)):=Lib.hid (errV_err hf0)
              obtain rfl:=hN' hf0
              rw [HE2.out]
              have HF0:=Lib.hid hf0
              clear hf0 hN hN'
              go_wp2_with fail
              refine (fa_miss f ⟨_,0,none⟩ (.int .i64 0) _ (hh5.keep Below.x0) (by simp) (by simp)).mono ?_
              rintro e w6 ⟨rfl,hw6⟩
              have hb6:Below w5.heap.size w5 w6:=by rw [hw6];exact Below.x0
              clear hw6
              have Z8:=(hr8.farS hf5 (fun h9:w.heap.size+1+1=mb+1=>by omega)).keep hb6
              have z80:=Z8.cell 0
              have z81:=Z8.cell 1
              have z82:=Z8.cell 2
              have g80:=Z8.thawed 0
              have g81:=Z8.thawed 1
              have g82:=Z8.thawed 2
              obtain ⟨wD,hwD,XD,hfD⟩:=store3 Z8 (.slice none 0 0) (.slice none 0 0) (.int .i64 0)
              have x80:=XD.cell 0
              have x81:=XD.cell 1
              have x82:=XD.cell 2
              have HBD:Hid (Below w.heap.size w wD):=Lib.hid (Far.toBelow (Far.toBelow HBR.out (hf5.trans (Far.of_below hb6)) (by omega) (fun k (h9:k=mb+1)=>by omega)) hfD (by have:=hb6.size;omega) (fun k (h9:k=w.heap.size+1+1)=>by omega))
              have HFN:Hid (runFault s l p ln kp (E:Int) Fs=f):=Lib.hid (by
                rw [HR.out,allFt_stop hlt HQ.out.2.2.2.2.2 (by rw [← HQ.out.2.2.2.1,HF.out];exact HF0.out),← HQ.out.2.2.2.1,HF.out])
              clear hf5 hh5 hb6 V5 Y6 Y4 Y5 YC YK y60 y61 y62 hrL hrh hrg Z8 XD hfD hr8
              go_wp2
              try rw [hwD]
              refine bodyPost_ret (v:=.tuple #[.agg #[.slice none 0 0,.slice none 0 0,.int .i64 0],.int .i64 0,.iface 36 (.int .i64 f)]) (by simp [results,Tryz.results5,go_sem,x80,x81,x82]) rfl ⟨_,_,by rw [HFN.out,HE2.out],HBD.out,fun h=>absurd (HFN.out.symm.trans h) HF0.out,fun _=>⟨rfl,rfl⟩⟩
        · obtain rfl:q=L:=by omega
          have g80:=hr8.thawed 0
          have g81:=hr8.thawed 1
          have g82:=hr8.thawed 2
          have y80:=hr8.cell 0
          have y81:=hr8.cell 1
          have y82:=hr8.cell 2
          have c5:=YC.box.cell 5
          obtain ⟨wD,hwD,XD,hfD⟩:=store3 hr8 (.slice c0 m0 l0) (.slice c1 m1 l1) (.int .i64 X.steps)
          have x80:=XD.cell 0
          have x81:=XD.cell 1
          have x82:=XD.cell 2
          have hbD:Below w.heap.size w wD.drew:=(Far.toBelow HBR.out hfD (by have:=HBR.out.size;exact this) (fun k (h9:k=w.heap.size+1+1)=>by omega)).trans ⟨rfl,rfl,rfl,Nat.le_refl _,fun _ _=>rfl⟩
          have HFIN:=Lib.hid (show Below w.heap.size w wD.drew∧runFault s l p ln kp (E:Int) Fs=0∧StaUp w.heap.size wD.drew (.agg #[.slice c0 m0 l0,.slice c1 m1 l1,.int .i64 X.steps]) (allSt s l p ln kp q)∧TrySt E Fs q t∧¬ atK E Fs t<q from
            ⟨hbD,by rw [HR.out,HQ.out.2.2.2.2.2],by
              rw [← HQ.out.2.2.2.1]
              exact ⟨c0,m0,l0,d0,p0,c1,m1,l1,d1,p1,rfl,((Y4.farS hfD (fun c hc _ (h9:c=w.heap.size+1+1)=>by have h8:mb+1<c:=hc;omega)).drewN 1).wide (fun c hc _=>by show w.heap.size≤c;omega),((Y5.farS hfD (fun c hc _ (h9:c=w.heap.size+1+1)=>by have h8:mb+1<c:=hc;omega)).drewN 1).wide (fun c hc _=>by show w.heap.size≤c;omega)⟩,
              HQ.out.1,by rw [← HQ.out.2.1];omega⟩)
          have d5:=(YC.farS hfD (fun h9:mb+1=w.heap.size+1+1=>by omega) (fun h9:mb=w.heap.size+1+1=>by omega)).box.cell 5
          have YD:=Y6.farS hfD (fun h9:w.heap.size=w.heap.size+1+1=>by omega)
          have d60:=YD.cell 0
          have d61:=YD.cell 1
          have d62:=YD.cell 2
          clear hbD XD hfD Y6 Y4 Y5 YC YK hrL hrh hrg hr8 YD
          go_wp2
          go_region
          go_wp2
          try rw [hwD]
          have HE0:Hid (errV (runFault s l p ln kp (E:Int) Fs)=.nilIface):=Lib.hid (errV_nil HFIN.out.2.1)
          refine bodyPost_ret (v:=.tuple #[.agg #[.slice c0 m0 l0,.slice c1 m1 l1,.int .i64 X.steps],.int .i64 t,.nilIface]) (by simp [results,Tryz.results5,go_sem,x80,x81,x82]) rfl ⟨_,_,by rw [HE0.out],HFIN.out.1,fun _=>⟨t,rfl,by rw [HEN.out];exact HFIN.out.2.2.2.1,by rw [HEN.out];exact HFIN.out.2.2.2.2,HFIN.out.2.2.1⟩,fun h=>absurd HFIN.out.2.1 h⟩
theorem run_any :
    Calls Tryz.prog 5 #[.agg #[.slice a0 n k0,.slice a1 n1 k1,.int .i64 s.steps],.slice al L kl,.int .i64 p,.agg #[.int .i64 ln,.int .i64 kp],.int .i64 every,.slice af nf kf] w fun e w'=>∃ v c,e=.returned (.tuple #[v,.int .i64 c,errV (runFault s l p ln kp every Fs)])∧Below w.heap.size w w' ∧
       (runFault s l p ln kp every Fs=0→∃ t:Nat,c=(t:Int)∧TrySt every.toNat Fs L t∧¬ atK every.toNat Fs t<L∧StaUp w.heap.size w' v (allSt s l p ln kp L))∧(runFault s l p ln kp every Fs≠0→c=0∧v=.agg #[.slice none 0 0,.slice none 0 0,.int .i64 0])
  := by
  by_cases hd:drillFault s L every Fs=0
  · exact run_ok s l p ln kp every Fs F G H a0 a1 al af n n1 k0 k1 b0 b1 o0 o1 L kl bl ol nf kf bf o2 A w h0 h1 hl hf hFw hh hg hd
  · exact run_bad s l p ln kp every Fs F G H a0 a1 al af n n1 k0 k1 b0 b1 o0 o1 L kl bl ol nf kf bf o2 A w h0 h1 hl hf hFw hh hg hd
end
end Go.Proofs.YtchngeagnlngaaaGreatDoor
end
