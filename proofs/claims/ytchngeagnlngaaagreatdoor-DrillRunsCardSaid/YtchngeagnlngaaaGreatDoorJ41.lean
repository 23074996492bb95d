/- Texts joined: Keep6. -/
import Derived.Test.YtchngeagnlngaaaGreatDoorJ39
import Derived.Test.YtchngeagnlngaaaGreatDoorJ40
import Derived.Test.YtchngeagnlngaaaGreatDoorJ08
import Derived.Deep.DeepCutAuto
import Derived.Test.YtchngeagnlngaaaGreatDoorJ11
set_option linter.unusedVariables false
set_option linter.unusedSimpArgs false
set_option linter.unusedSectionVars false
section
set_option maxRecDepth 100000
namespace Go.Proofs.YtchngeagnlngaaaGreatDoor
open Go.RowKit Gal
set_option maxHeartbeats 8000000
theorem info_layerK:(Tryz.prog.info? 84).map (fun i=>(i.zero,i.size,i.bytes))=some (some (.agg #[.int .i64 0,.int .i64 0,.int .i64 0,.slice none 0 0,.int .i64 0,.int .i64 0,.slice none 0 0]),7,88):=by kernel_rfl
theorem info_gradK:(Tryz.prog.info? 86).map (fun i=>(i.zero,i.size,i.bytes))=some (some (.agg #[.int .i64 0,.int .i64 0,.slice none 0 0,.int .i64 0,.int .i64 0,.slice none 0 0]),6,80):=by kernel_rfl
def StaUp (base:Nat) (w:World) (v:Value) (s:Sta):Prop:=∃ a0 n k0 b0 o0 a1 n1 k1 b1 o1,v=.agg #[.slice a0 n k0,.slice a1 n1 k1,.int .i64 s.steps]∧RowAt Form.lay w (fun b=>base≤b) a0 n k0 b0 o0 s.N∧RowAt Form.grd w (fun b=>base≤b) a1 n1 k1 b1 o1 s.V
theorem StaUp.sta {base:Nat} {w:World} {v:Value} {s:Sta} (h:StaUp base w v s):StaV w v s:=by
 obtain ⟨a0,n,k0,b0,o0,a1,n1,k1,b1,o1,e,h0,h1⟩:=h
 exact ⟨a0,n,k0,b0,o0,a1,n1,k1,b1,o1,e,h0.wide (fun _ _ _=>trivial),h1.wide (fun _ _ _=>trivial)⟩
def LoadEnd (bs:List Nat) (w:World) (e:Ending) (w':World):Prop:=
 Below w.heap.size w w'∧((staRd bs=none∧e=.returned (.tuple #[.agg #[.slice none 0 0,.slice none 0 0,.int .i64 0],errV 7])) ∨
  (∃ s v,staRd bs=some s∧e=.returned (.tuple #[v,.nilIface])∧StaUp w.heap.size w' v s))
theorem keepLoad_any (bs:List Nat) (a:Option Addr) (L K b o:Nat) (A:Addr) (w:World) (h:RowAt Form.u8 w anyB a L K b o bs) (hg:w.cell? ⟨0,0,none⟩=some (.iface 218 (.pointer (some A)))) :
  Calls Tryz.prog 13 #[.slice a L K] w (LoadEnd bs w):=by
 have BB:=Box.new w [.slice none 0 0,.slice none 0 0,.int .i64 0] 30
 have HL:=Lib.hid h.len
 have hmx:=h.max
 unfold maxLen at hmx
 by_cases c1:L<6
 ·have e1:((L:Int)<6)=True:=eq_true (by omega)
  have HNO:Hid (staRd bs=none):=Lib.hid (by unfold staRd;exact if_neg (fun hh=>by have:=hh.1;rw [HL.out] at this;omega))
  clear h hg
  have bz0:=BB.cell 0
  have bz1:=BB.cell 1
  have bz2:=BB.cell 2
  go_enter Tryz.func13,Tryz.ntmps13
  go_wp2
  refine bodyPost_ret (v:=.tuple #[.agg #[.slice none 0 0,.slice none 0 0,.int .i64 0],.iface 36 (.int .i64 7)]) (by simp [results,Tryz.results13,go_sem,bz0,bz1,bz2]) rfl ⟨Below.x0,Or.inl ⟨HNO.out,rfl⟩⟩
 have e1:((L:Int)<6)=False:=eq_false (by omega)
 by_cases c2:100000<L
 ·have e2:((L:Int) > 100000)=True:=eq_true (by omega)
  have HNO:Hid (staRd bs=none):=Lib.hid (by unfold staRd;exact if_neg (fun hh=>by have:=hh.2.1;rw [HL.out] at this;omega))
  clear h hg
  have bz0:=BB.cell 0
  have bz1:=BB.cell 1
  have bz2:=BB.cell 2
  go_enter Tryz.func13,Tryz.ntmps13
  go_wp2
  refine bodyPost_ret (v:=.tuple #[.agg #[.slice none 0 0,.slice none 0 0,.int .i64 0],.iface 36 (.int .i64 7)]) (by simp [results,Tryz.results13,go_sem,bz0,bz1,bz2]) rfl ⟨Below.x0,Or.inl ⟨HNO.out,rfl⟩⟩
 have e2:((L:Int) > 100000)=False:=eq_false (by omega)
 obtain rfl:=h.ptr (by omega)
 have hblt:=h.lt (by omega)
 have hu:Hid (∀ W,Below w.heap.size w W→∀ i,i<L→W.cell? ⟨b,o+i,none⟩=some (.int .u8 (bt bs i:Int))∧bt bs i<256):=Lib.hid (fun W hW i hi=>u8_cell (h.keep hW) hi)
 have q0:=(hu.out (w.alloc (.cells #[.slice none 0 0,.slice none 0 0,.int .i64 0] 30)) Below.x0 0 (by omega)).1
 have q1:=(hu.out (w.alloc (.cells #[.slice none 0 0,.slice none 0 0,.int .i64 0] 30)) Below.x0 1 (by omega)).1
 rw [Nat.add_zero] at q0
 have pL:(0:Int)<(L:Int):=by omega
 have pL1:(1:Int)<(L:Int):=by omega
 have HU:Hid (headOk bs ↔ (bt bs 0=71∧bt bs 1=1∧(prgSums (bs.take (L - 2))).1=bt bs (L - 2)∧(prgSums (bs.take (L - 2))).2=bt bs (L - 1))):=Lib.hid (by
  unfold headOk bt
  rw [HL.out]
  constructor
  ·rintro ⟨_,_,h1,h2,h3,h4⟩;exact ⟨h1,h2,h3,h4⟩
  ·rintro ⟨h1,h2,h3,h4⟩;exact ⟨by omega,by omega,h1,h2,h3,h4⟩)
 by_cases c3:bt bs 0=71
 case neg=>
  have e3:((bt bs 0:Int) != 71)=true:=by rw [bne_iff_ne];omega
  have HNO:Hid (staRd bs=none):=Lib.hid (by unfold staRd;exact if_neg (fun hh=>c3 (HU.out.1 hh).1))
  clear h hg c3
  have bz0:=BB.cell 0
  have bz1:=BB.cell 1
  have bz2:=BB.cell 2
  go_enter Tryz.func13,Tryz.ntmps13
  go_wp2
  refine bodyPost_ret (v:=.tuple #[.agg #[.slice none 0 0,.slice none 0 0,.int .i64 0],.iface 36 (.int .i64 7)]) (by simp [results,Tryz.results13,go_sem,bz0,bz1,bz2]) rfl ⟨Below.x0,Or.inl ⟨HNO.out,rfl⟩⟩
 have e3:((bt bs 0:Int) != 71)=false:=by rw [bne_eq_false_iff_eq];omega
 by_cases c4:bt bs 1=1
 case neg=>
  have e4:((bt bs 1:Int) != 1)=true:=by rw [bne_iff_ne];omega
  have HNO:Hid (staRd bs=none):=Lib.hid (by unfold staRd;exact if_neg (fun hh=>c4 (HU.out.1 hh).2.1))
  clear h hg c3 c4
  have bz0:=BB.cell 0
  have bz1:=BB.cell 1
  have bz2:=BB.cell 2
  go_enter Tryz.func13,Tryz.ntmps13
  go_wp2
  refine bodyPost_ret (v:=.tuple #[.agg #[.slice none 0 0,.slice none 0 0,.int .i64 0],.iface 36 (.int .i64 7)]) (by simp [results,Tryz.results13,go_sem,bz0,bz1,bz2]) rfl ⟨Below.x0,Or.inl ⟨HNO.out,rfl⟩⟩
 have e4:((bt bs 1:Int) != 1)=false:=by rw [bne_eq_false_iff_eq];omega
 obtain ⟨m,hLm⟩:∃ m,L=m+2:=⟨L - 2,by omega⟩
 have h5:IntKind.i64.wrap ((L:Int) - 2)=(m:Int):=by rw [IntKind.wrap_i64];omega
 have hmK:m≤K:=by have:=h.le;omega
 have HM:Hid (L=m+2):=Lib.hid hLm
 have h6:=h.keep (w':=w.alloc (.cells #[.slice none 0 0,.slice none 0 0,.int .i64 0] 30)) Below.x0
 have h7:=h6.firstk (k:=m) (by omega)
 have HH:=Lib.hid h
 have hm6:m<9223372036854775807:=by omega
 clear h h6 hLm
 go_enter Tryz.func13,Tryz.ntmps13
 go_wp2_with fail
 refine (keepSums_any (bs.take m) _ _ _ _ _ _ _ h7).mono ?_
 rintro e w1 ⟨rfl,hb1⟩
 have BB1:=(BB).keep hb1
 have BB1c:=BB1.cell
 have BB1f:=BB1.thawed
 have BB1z:=BB1.lt
 have BB1k:=lt_add BB1z
 have hk1:=HH.out.keep (show Below w.heap.size w w1 from (Below.x1 hb1))
 have u0:=(hu.out w1 (Below.x1 hb1) m (by have:=HM.out;omega)).1
 have u1:=(hu.out w1 (Below.x1 hb1) (m+1) (by have:=HM.out;omega)).1
 have h55:IntKind.i64.wrap ((L:Int) - 1)=((m+1:Nat):Int):=by have:=HM.out;rw [IntKind.wrap_i64];omega
 have pm0:(0:Int)≤(m:Int):=by omega
 have pm1:(m:Int)<(L:Int):=by have:=HM.out;omega
 have pm2:(((m+1:Nat):Int))<(L:Int):=by have:=HM.out;omega
 by_cases c5:(prgSums (bs.take m)).1=bt bs m
 case neg=>
  have e5:(((prgSums (bs.take m)).1:Int) != (bt bs m:Int))=true:=by rw [bne_iff_ne];omega
  have HNO:Hid (staRd bs=none):=Lib.hid (by unfold staRd;exact if_neg (fun hh=>c5 (by have:=(HU.out.1 hh).2.2.1;rw [HM.out] at this;exact this)))
  clear c5
  have HBE:Hid (Below w.heap.size w (w1)):=Lib.hid ((by exact (Below.x1 hb1)))
  have hbx:=(((BB1).set 0 (.slice none 0 0)).set 1 (.slice none 0 0)).set 2 (.int .i64 0)
  have bz0:=hbx.cell 0
  have bz1:=hbx.cell 1
  have bz2:=hbx.cell 2
  have bk0:=(BB1).cell 0
  have bk1:=(BB1).cell 1
  have bk2:=(BB1).cell 2
  have bt0:=(BB1).thawed 0
  have bt1:=(BB1).thawed 1
  have bt2:=(BB1).thawed 2
  clear hbx
  go_wp2
  refine bodyPost_ret (v:=.tuple #[.agg #[.slice none 0 0,.slice none 0 0,.int .i64 0],.iface 36 (.int .i64 7)]) (by simp [results,Tryz.results13,go_sem,bz0,bz1,bz2]) rfl ⟨?_,Or.inl ⟨HNO.out,rfl⟩⟩
  exact ((HBE.out.setCell (Nat.le_refl _) _).setCell (Nat.le_refl _) _).setCell (Nat.le_refl _) _
 have e5:(((prgSums (bs.take m)).1:Int) != (bt bs m:Int))=false:=by rw [bne_eq_false_iff_eq];omega
 by_cases c6:(prgSums (bs.take m)).2=bt bs (m+1)
 case neg=>
  have e6:(((prgSums (bs.take m)).2:Int) != (bt bs (m+1):Int))=true:=by rw [bne_iff_ne];omega
  have HNO:Hid (staRd bs=none):=Lib.hid (by unfold staRd;exact if_neg (fun hh=>c6 (by have:=(HU.out.1 hh).2.2.2;rw [HM.out] at this;exact this)))
  clear c5 c6
  have HBE:Hid (Below w.heap.size w (w1)):=Lib.hid ((by exact (Below.x1 hb1)))
  have hbx:=(((BB1).set 0 (.slice none 0 0)).set 1 (.slice none 0 0)).set 2 (.int .i64 0)
  have bz0:=hbx.cell 0
  have bz1:=hbx.cell 1
  have bz2:=hbx.cell 2
  have bk0:=(BB1).cell 0
  have bk1:=(BB1).cell 1
  have bk2:=(BB1).cell 2
  have bt0:=(BB1).thawed 0
  have bt1:=(BB1).thawed 1
  have bt2:=(BB1).thawed 2
  clear hbx
  go_wp2
  refine bodyPost_ret (v:=.tuple #[.agg #[.slice none 0 0,.slice none 0 0,.int .i64 0],.iface 36 (.int .i64 7)]) (by simp [results,Tryz.results13,go_sem,bz0,bz1,bz2]) rfl ⟨?_,Or.inl ⟨HNO.out,rfl⟩⟩
  exact ((HBE.out.setCell (Nat.le_refl _) _).setCell (Nat.le_refl _) _).setCell (Nat.le_refl _) _
 have e6:(((prgSums (bs.take m)).2:Int) != (bt bs (m+1):Int))=false:=by rw [bne_eq_false_iff_eq];omega
 have HS:Hid (staRd bs=bodyRd (bs.take m)):=Lib.hid (by
  unfold staRd
  rw [if_pos (HU.out.2 ⟨c3,c4,by rw [HM.out];exact c5,by rw [HM.out];exact c6⟩),HL.out,HM.out]
  rfl)
 have hw01:Below w.heap.size w w1:=(Below.x1 hb1)
 have hmK2:m+2≤K:=by have:=HH.out.le;have:=HM.out;omega
 have h2m:2≤m:=by have:=HM.out;omega
 have hLk:Looks w (bs.take m) b o m K w1.heap.size (.pointer (some A)):=⟨(HH.out.firstk (k:=m) (by have:=HM.out;omega)).any u8_plainly (fun _=>rfl),by have:=hw01.size;omega,hmK2,by have:=hw01.size;omega,by omega,hg⟩
 have BE:=Box.new w1 [.slice (some ⟨b,o+2,none⟩) (m - 2) (K - 2),.nilIface] 93
 have hLk1:=hLk.keep (w':=w1.alloc (.cells #[.slice (some ⟨b,o+2,none⟩) (m - 2) (K - 2),.nilIface] 93)) (Below.y0 hw01)
 have hw1a:Below w.heap.size w (w1.alloc (.cells #[.slice (some ⟨b,o+2,none⟩) (m - 2) (K - 2),.nilIface] 93)):=(Below.y0 hw01)
 have hb1a:Box (w1.alloc (.cells #[.slice (some ⟨b,o+2,none⟩) (m - 2) (K - 2),.nilIface] 93)) w.heap.size [.slice none 0 0,.slice none 0 0,.int .i64 0] 30:=BB1.alloc _
 obtain ⟨E,hE⟩:∃ E,w1.heap.size=E:=⟨_,rfl⟩
 have hBE:w.heap.size<E:=by omega
 rw [hE] at BE hLk1 hLk
 have HLk:Hid (∀ W,Below w.heap.size w W→Looks W (bs.take m) b o m K E (.pointer (some A))):=Lib.hid (fun W hW=>hLk.keep hW)
 have HE:=Lib.hid hE
 have HBL:Hid (b<w.heap.size):=Lib.hid hblt
 clear hLk c5 c6 c3 c4 hE hblt
 go_wp2_with fail
 rw [HE.out]
 refine (eyeNumber_any (bs.take m) b o m K E 2 (.pointer (some A)) true _ hLk1 BE h2m).mono ?_
 rintro e w2 ⟨steps,at1,ok1,rfl,hE2,hf2,ha1,hn1⟩
 have hbw2:Below w.heap.size w w2:=Far.toBelow hw1a hf2 hw1a.size (fun k hk=>by have h2:k=E:=hk;omega)
 have hB2:=hb1a.farS hf2 (by omega)
 clear q0 q1 u0 u1 e1 e2 e3 e4 e5 e6 hLk1 BE hw1a hb1a hf2 hb1 BB1 BB1c BB1f BB1z BB1k BB h7 pm0 pm1 pm2 h5 h55 pL pL1
 have hES:E<w2.heap.size:=hE2.lt
 have hBS:w.heap.size<w2.heap.size:=hB2.lt
 have BS:=Box.new w2 [.slice none 0 0,.slice none 0 0,.int .i64 (steps:Int)] 30
 have hE2a:EyeAt (w2.alloc (.cells #[.slice none 0 0,.slice none 0 0,.int .i64 (steps:Int)] 30)) E b o m K at1 (eyeErr (.iface 218 (.pointer (some A))) ok1):=hE2.alloc _
 have hw2a:Below w.heap.size w (w2.alloc (.cells #[.slice none 0 0,.slice none 0 0,.int .i64 (steps:Int)] 30)):=(Below.y0 hbw2)
 go_wp2_with fail
 refine (eyeNumber_any (bs.take m) b o m K E at1 (.pointer (some A)) ok1 _ (HLk.out _ hw2a) hE2a ha1).mono ?_
 rintro e w3 ⟨n,at2,ok2,rfl,hE3,hf3,ha2,hn2⟩
 have hbw3:Below w.heap.size w w3:=Far.toBelow hw2a hf3 hw2a.size (fun k hk=>by have h2:k=E:=hk;omega)
 have hB3:=(hB2.alloc _).farS hf3 (by omega)
 have hS3:=BS.farS hf3 (by omega)
 have hn63:=hn2.small
 clear hE2 hE2a hw2a hf3 hB2 BS
 by_cases c7:12<n
 ·have e7:((n:Int) > 12)=True:=eq_true (by omega)
  have HNO:Hid (staRd bs=none):=Lib.hid (by rw [HS.out];exact body_big hn1 hn2 c7)
  clear hn1 hn2 hn63 hS3 hE3 c7
  have HBE:Hid (Below w.heap.size w (w3)):=Lib.hid (hbw3)
  have hbx:=(((hB3).set 0 (.slice none 0 0)).set 1 (.slice none 0 0)).set 2 (.int .i64 0)
  have bz0:=hbx.cell 0
  have bz1:=hbx.cell 1
  have bz2:=hbx.cell 2
  have bk0:=(hB3).cell 0
  have bk1:=(hB3).cell 1
  have bk2:=(hB3).cell 2
  have bt0:=(hB3).thawed 0
  have bt1:=(hB3).thawed 1
  have bt2:=(hB3).thawed 2
  clear hbx
  go_wp2
  refine bodyPost_ret (v:=.tuple #[.agg #[.slice none 0 0,.slice none 0 0,.int .i64 0],.iface 36 (.int .i64 7)]) (by simp [results,Tryz.results13,go_sem,bz0,bz1,bz2]) rfl ⟨?_,Or.inl ⟨HNO.out,rfl⟩⟩
  exact ((HBE.out.setCell (Nat.le_refl _) _).setCell (Nat.le_refl _) _).setCell (Nat.le_refl _) _
 have e7:((n:Int) > 12)=False:=eq_false (by omega)
 have HN1:=Lib.hid hn1
 have HN2:=Lib.hid hn2
 have HC7:=Lib.hid c7
 clear hn1 hn2
 have hS3z:=hS3.lt
 go_wp2_with fail
 obtain ⟨i0,hi,hz0,hz1,hz2⟩:=info_parts info_layerK
 obtain ⟨i1,hi',hz0',hz1',hz2'⟩:=info_parts info_gradK
 go_loopw [79] (fun i wr=>∃ (t atq:Nat) (okq:Bool) (vN vV:Value) (N:List Lay) (V:List Grd) (Eb:Nat→Prop),t≤n∧i=.int .i64 t∧atq≤m∧N.length=t∧V.length=t∧Box wr w2.heap.size [vN,vV,.int .i64 (steps:Int)] 30∧TwoRows Eb wr (w2.heap.size+1) 84 86 vN N vV V∧EyeAt wr E b o m K atq (eyeErr (.iface 218 (.pointer (some A))) okq)∧Box wr w.heap.size [.slice none 0 0,.slice none 0 0,.int .i64 0] 30∧Below w.heap.size w wr∧Hid (EyeL (bs.take m) at2 t atq ok2 okq N V)) (fun i _=>n - (intOf i).toNat)
 case atStart=>exact ⟨0,at2,ok2,_,_,[],[],_,Nat.zero_le _,rfl,ha2,rfl,rfl,hS3,TwoRows.nil _ _ _ _,hE3,hB3,hbw3,Lib.hid (EyeL.start (bs.take m) at2 ok2)⟩
 case round=>
  clear hS3 hE3 hB3 hbw3 hS3z
  obtain ⟨t,atq,okq,vN,vV,N,V,Eb,ht,rfl,haq,hNl,hVl,hSr,hT,hEr,hBr,hbr,HLs⟩:=hrel
  by_cases hlt:t<n
  ·have HON:=Lib.hid hT.own1.base_le
   have HOV:=Lib.hid hT.own2.base_le
   have HEX:Hid (∀ b,Eb b→b<wr.heap.size):=Lib.hid (fun b hb=>(hT.ext b hb).1)
   have hrz:=hSr.lt
   have hEz:E<w2.heap.size:=hES
   go_wp2_with fail
   refine (eyeNumber_any (bs.take m) b o m K E atq (.pointer (some A)) okq wr (HLk.out wr hbr) hEr haq).mono ?_
   rintro e w5 ⟨kd,a5,ok5,rfl,hE5,hf5,ha5,hn5⟩
   have hb5:Below w.heap.size w w5:=Far.toBelow hbr hf5 hbr.size (fun k hk=>by have h2:k=E:=hk;omega)
   have hB5:=hBr.farS hf5 (by omega)
   have hS5:=hSr.farS hf5 (by omega)
   have hT5:=hT.farS hf5 (fun k hk=>by have h2:k=E:=hk;omega)
   have hs5:=hf5.size
   have HN5:=Lib.hid hn5
   clear hf5 hn5 hEr hBr hSr hT hbr
   have hL5:=Box.new w5 [.int .i64 (kd:Int),.int .i64 0,.int .i64 0,.slice none 0 0,.int .i64 0,.int .i64 0,.slice none 0 0] 84
   have hal:Below w5.heap.size w5 (w5.alloc (.cells #[.int .i64 (kd:Int),.int .i64 0,.int .i64 0,.slice none 0 0,.int .i64 0,.int .i64 0,.slice none 0 0] 84)):=Below.x0
   have hb5a:Below w.heap.size w (w5.alloc (.cells #[.int .i64 (kd:Int),.int .i64 0,.int .i64 0,.slice none 0 0,.int .i64 0,.int .i64 0,.slice none 0 0] 84)):=(Below.y0 hb5)
   go_wp2_with fail
   refine (eyeMatrix_any (bs.take m) b o m K E a5 (.pointer (some A)) ok5 _ (HLk.out _ hb5a) (hE5.keep hal) ha5).mono ?_
   rintro e w6 ⟨_,mW,a6,ok6,rfl,⟨c6,n6,k6,b6,o6,rfl,h6,x6⟩,hE6,hf6,ha6,hm6'⟩
   have hb6:Below w.heap.size w w6:=Far.toBelow hb5a hf6 hb5a.size (fun k hk=>by have h2:k=E:=hk;omega)
   have hB6:=(hB5.keep hal).farS hf6 (by omega)
   have hS6:=(hS5.keep hal).farS hf6 (by omega)
   have hL6:=hL5.farS hf6 (by omega)
   have hT6:=(hT5.keep hal).farS hf6 (fun k hk=>by have h2:k=E:=hk;omega)
   have hs6:=hf6.size
   have hsa:=hal.size
   have HN6:=Lib.hid hm6'
   have q6:0<n6→w5.heap.size<b6:=fun hh=>by have h:=h6 hh;simp at h;omega
   clear hf6 hm6' h6 hE5 hB5 hS5 hT5 hb5 hb5a hL5 hal
   go_wp2_with fail
   refine (eyeMatrix_any (bs.take m) b o m K E a6 (.pointer (some A)) ok6 _ (HLk.out _ hb6) hE6 ha6).mono ?_
   rintro e w7 ⟨_,mB,a7,ok7,rfl,⟨c7',n7,k7,b7,o7,rfl,h7,x7⟩,hE7,hf7,ha7,hm7⟩
   have hb7:Below w.heap.size w w7:=Far.toBelow hb6 hf7 hb6.size (fun k hk=>by have h2:k=E:=hk;omega)
   have hB7:=hB6.farS hf7 (by omega)
   have hS7:=hS6.farS hf7 (by omega)
   have hL7:=hL6.farS hf7 (by omega)
   have hT7:=hT6.farS hf7 (fun k hk=>by have h2:k=E:=hk;omega)
   have y6:=ints_farS x6 hf7 (fun hh h2=>by have h3:b6=E:=h2;have:=q6 hh;omega)
   have hs7:=hf7.size
   have HN7:=Lib.hid hm7
   have q7:0<n7→w5.heap.size<b7:=fun hh=>by have h:=h7 hh;simp at hs6;omega
   have t6:=y6.lt
   have t7:=x7.lt
   clear hf7 hm7 h7 hB6 hS6 hT6 hb6 hL6 hE6 x6
   have l1:=hL7.cell 1
   have l2:=hL7.cell 2
   have l3:=hL7.cell 3
   have l4:=hL7.cell 4
   have l5:=hL7.cell 5
   have l6:=hL7.cell 6
   have f1:=hL7.thawed 1
   have f2:=hL7.thawed 2
   have f3:=hL7.thawed 3
   have f4:=hL7.thawed 4
   have f5:=hL7.thawed 5
   have f6:=hL7.thawed 6
   obtain ⟨w8,hw8⟩:∃ w8,(((((w7.setCell ⟨w5.heap.size,1,none⟩ (.int .i64 mW.rows)).setCell ⟨w5.heap.size,2,none⟩ (.int .i64 mW.cols)).setCell ⟨w5.heap.size,3,none⟩ (.slice c6 n6 k6)).setCell ⟨w5.heap.size,4,none⟩ (.int .i64 mB.rows)).setCell ⟨w5.heap.size,5,none⟩ (.int .i64 mB.cols)).setCell ⟨w5.heap.size,6,none⟩ (.slice c7' n7 k7)=w8:=⟨_,rfl⟩
   have hL8:Box w8 w5.heap.size [.int .i64 (kd:Int),.int .i64 mW.rows,.int .i64 mW.cols,.slice c6 n6 k6,.int .i64 mB.rows,.int .i64 mB.cols,.slice c7' n7 k7] 84:=by
    rw [← hw8]
    exact (((((hL7.set 1 _).set 2 _).set 3 _).set 4 _).set 5 _).set 6 _
   have hf8:Far (fun y=>y=w5.heap.size) w7 w8:=by
    rw [← hw8]
    exact ((((((Far.refl (fun y=>y=w5.heap.size) w7).st (fun _=>rfl) _).st (fun _=>rfl) _).st (fun _=>rfl) _).st (fun _=>rfl) _).st (fun _=>rfl) _).st (fun _=>rfl) _
   have hb8:Below w.heap.size w w8:=Far.toBelow hb7 hf8 hb7.size (fun k hk=>by have h2:k=w5.heap.size:=hk;omega)
   have hB8:=hB7.farS hf8 (by omega)
   have hS8:=hS7.farS hf8 (by omega)
   have hE8:=hE7.farS hf8 (by omega)
   have hT8:=hT7.farO hf8 HON.out HOV.out HEX.out (fun k hk=>by have h2:k=w5.heap.size:=hk;omega)
   have z6:=ints_farS y6 hf8 (fun hh h2=>by have h3:b6=w5.heap.size:=h2;have:=q6 hh;omega)
   have z7:=ints_farS x7 hf8 (fun hh h2=>by have h3:b7=w5.heap.size:=h2;have:=q7 hh;omega)
   have hs8:=hf8.size
   have HW8:=Lib.hid hw8
   clear hw8 hf8 hB7 hS7 hT7 hb7 hL7 hE7 y6 x7
   go_wp2_with fail
   rw [HW8.out]
   refine (eyeMatrix_any (bs.take m) b o m K E a7 (.pointer (some A)) ok7 _ (HLk.out _ hb8) hE8 ha7).mono ?_
   rintro e w9 ⟨_,vW,a9,ok9,rfl,⟨c9,n9,k9,b9,o9,rfl,h9,x9⟩,hE9,hf9,ha9,hm9⟩
   have hb9:Below w.heap.size w w9:=Far.toBelow hb8 hf9 hb8.size (fun k hk=>by have h2:k=E:=hk;omega)
   have hB9:=hB8.farS hf9 (by omega)
   have hS9:=hS8.farS hf9 (by omega)
   have hL9:=hL8.farS hf9 (by omega)
   have hT9:=hT8.farS hf9 (fun k hk=>by have h2:k=E:=hk;omega)
   have g6:=ints_farS z6 hf9 (fun hh h2=>by have h3:b6=E:=h2;have:=q6 hh;omega)
   have g7:=ints_farS z7 hf9 (fun hh h2=>by have h3:b7=E:=h2;have:=q7 hh;omega)
   have hs9:=hf9.size
   have HN9:=Lib.hid hm9
   have q9:0<n9→w5.heap.size<b9:=fun hh=>by have:=h9 hh;simp at hs6;omega
   clear hf9 hm9 h9 hB8 hS8 hT8 hb8 hL8 hE8 z6 z7 l1 l2 l3 l4 l5 l6 f1 f2 f3 f4 f5 f6
   go_wp2_with fail
   refine (eyeMatrix_any (bs.take m) b o m K E a9 (.pointer (some A)) ok9 _ (HLk.out _ hb9) hE9 ha9).mono ?_
   rintro e wA ⟨_,vB,aA,okA,rfl,⟨cA,nA,kA,bA,oA,rfl,hA,xA⟩,hEA,hfA,haA,hmA⟩
   have hbA:Below w.heap.size w wA:=Far.toBelow hb9 hfA hb9.size (fun k hk=>by have h2:k=E:=hk;omega)
   have hBA:=hB9.farS hfA (by omega)
   have hSA:=hS9.farS hfA (by omega)
   have hLA:=hL9.farS hfA (by omega)
   have hTA:=hT9.farS hfA (fun k hk=>by have h2:k=E:=hk;omega)
   have j6:=ints_farS g6 hfA (fun hh h2=>by have h3:b6=E:=h2;have:=q6 hh;omega)
   have j7:=ints_farS g7 hfA (fun hh h2=>by have h3:b7=E:=h2;have:=q7 hh;omega)
   have j9:=ints_farS x9 hfA (fun hh h2=>by have h3:b9=E:=h2;have:=q9 hh;omega)
   have hsA:=hfA.size
   have HNA:=Lib.hid hmA
   have qA:0<nA→w5.heap.size<bA:=fun hh=>by have:=hA hh;simp at hs6;omega
   clear hfA hmA hA hB9 hS9 hT9 hb9 hL9 hE9 g6 g7 x9
   have hTB:=hTA.more (P:=fun q=>(0<n6∧q=b6)∨(0<n7∧q=b7)∨(0<n9∧q=b9)∨(0<nA∧q=bA)) (m:=wr.heap.size) (fun k hk=>(HON.out k hk).2) (fun k hk=>(HOV.out k hk).2) (by omega) (fun q hq=>by
    rcases hq with ⟨hh,rfl⟩|⟨hh,rfl⟩|⟨hh,rfl⟩|⟨hh,rfl⟩
    ·exact ⟨j6.lt hh,by have:=q6 hh;omega⟩
    ·exact ⟨j7.lt hh,by have:=q7 hh;omega⟩
    ·exact ⟨j9.lt hh,by have:=q9 hh;omega⟩
    ·exact ⟨xA.lt hh,by have:=qA hh;omega⟩)
   obtain ⟨E',hE'⟩:∃ E':Nat→Prop,E'=fun b=>Eb b∨((0<n6∧b=b6)∨(0<n7∧b=b7)∨(0<n9∧b=b9)∨(0<nA∧b=bA)):=⟨_,rfl⟩
   have r6:0<n6→E' b6∧vN.ownBlock≠some b6:=fun hh=>by have e:E' b6:=(by rw [hE'];exact Or.inr (Or.inl ⟨hh,rfl⟩));rw [hE'] at e;exact ⟨by rw [hE'];exact e,(hTB.ext _ e).2.2.1⟩
   have r7:0<n7→E' b7∧vN.ownBlock≠some b7:=fun hh=>by have e:E' b7:=(by rw [hE'];exact Or.inr (Or.inr (Or.inl ⟨hh,rfl⟩)));rw [hE'] at e;exact ⟨by rw [hE'];exact e,(hTB.ext _ e).2.2.1⟩
   have r9:0<n9→E' b9∧vV.ownBlock≠some b9:=fun hh=>by have e:E' b9:=(by rw [hE'];exact Or.inr (Or.inr (Or.inr (Or.inl ⟨hh,rfl⟩))));rw [hE'] at e;exact ⟨by rw [hE'];exact e,(hTB.ext _ e).2.2.2⟩
   have rA:0<nA→E' bA∧vV.ownBlock≠some bA:=fun hh=>by have e:E' bA:=(by rw [hE'];exact Or.inr (Or.inr (Or.inr (Or.inr ⟨hh,rfl⟩))));rw [hE'] at e;exact ⟨by rw [hE'];exact e,(hTB.ext _ e).2.2.2⟩
   rw [← hE'] at hTB
   clear hE'
   have hGA:=Box.new wA [.int .i64 vW.rows,.int .i64 vW.cols,.slice c9 n9 k9,.int .i64 vB.rows,.int .i64 vB.cols,.slice cA nA kA] 86
   have hgal:Below wA.heap.size wA (wA.alloc (.cells #[.int .i64 vW.rows,.int .i64 vW.cols,.slice c9 n9 k9,.int .i64 vB.rows,.int .i64 vB.cols,.slice cA nA kA] 86)):=Below.x0
   have hSB:=hSA.keep hgal
   have hLB:=hLA.keep hgal
   have d0:=hSB.cell 0
   have d1:=hSB.cell 1
   have lk:=fun i=>hLB.cell i
   have p0:=lk 0
   have p1:=lk 1
   have p2:=lk 2
   have p3:=lk 3
   have p4:=lk 4
   have p5:=lk 5
   have p6:=lk 6
   have hbB:Below w.heap.size w (wA.alloc (.cells #[.int .i64 vW.rows,.int .i64 vW.cols,.slice c9 n9 k9,.int .i64 vB.rows,.int .i64 vB.cols,.slice cA nA kA] 86)):=(Below.y0 hbA)
   have hBB:=hBA.keep hgal
   have hEB:=hEA.keep hgal
   have hTC:=hTB.keep hgal
   have v6:=j6.keep hgal
   have v7:=j7.keep hgal
   have v9:=j9.keep hgal
   have vA:=xA.keep hgal
   have hzg:=hgal.size
   have hSz:=hSA.lt
   have hNm:(N.length+1)*88≤140737488355328:=by rw [hNl];have:=HC7.out;omega
   have hNm':N.length+1≤maxLen:=by rw [hNl];have:=HC7.out;unfold maxLen;omega
   have hVm:(V.length+1)*80≤140737488355328:=by rw [hVl];have:=HC7.out;omega
   have hVm':V.length+1≤maxLen:=by rw [hVl];have:=HC7.out;unfold maxLen;omega
   have HNM:=Lib.hid hNm
   have HNM':=Lib.hid hNm'
   have HVM:=Lib.hid hVm
   have HVM':=Lib.hid hVm'
   clear hNm hNm' hVm hVm' hSA hLA hBA hEA hTA hTB j6 j7 j9 xA lk
   go_wp2_with (at_builtin;refine wpList_push rfl (.tmp 96) (.tmp 98) 22 rfl Form.lay (w2.heap.size+1) E' 84 i0 (.agg #[.int .i64 0,.int .i64 0,.int .i64 0,.slice none 0 0,.int .i64 0,.int .i64 0,.slice none 0 0]) 88 Tryz.underlying22 hi hz0 hz1 hz2 rfl (by decide) vN N rfl ?c1 (wA.heap.size+1) 1 [.int .i64 (kd:Int),.int .i64 mW.rows,.int .i64 mW.cols,.slice c6 n6 k6,.int .i64 mB.rows,.int .i64 mB.cols,.slice c7' n7 k7] 84 ⟨kd,mW,mB⟩ rfl ?c2 ?c3 ?c4 ?c5 ?c6 _ rfl ?_)
   case c1=>exact OwnRow.keep hTC.own1 Below.x0
   case c2=>exact Box.x0
   case c3=>exact reads_lay (l:=⟨kd,mW,mB⟩) (F:=fun b=>E' b∧vN.ownBlock≠some b) (b:=b6) (b':=b7) (o:=o6) (o':=o7) r6 v6.k r7 v7.k
   case c4=>exact HNM.out
   case c5=>exact HNM'.out
   case c6=>simp;omega
   intro g1 cap1 wG hown1 hgrow hlies hlt1
   have hTW:=(hTC.keep (w':=(wA.alloc (.cells #[.int .i64 vW.rows,.int .i64 vW.cols,.slice c9 n9 k9,.int .i64 vB.rows,.int .i64 vB.cols,.slice cA nA kA] 86)).alloc (.cells #[.int .i64 (kd:Int),.int .i64 mW.rows,.int .i64 mW.cols,.slice c6 n6 k6,.int .i64 mB.rows,.int .i64 mB.cols,.slice c7' n7 k7] 84)) Below.x0).first (by decide) hown1 hgrow (hlies.imp_right (fun e=>by rw [e];simp))
   have HO9:Hid (∀ k,wr.heap.size≤k∨k≤w2.heap.size→some k≠vN.ownBlock):=Lib.hid (fun k hk e=>by have:=HON.out k e.symm;omega)
   have hSG:=Box.grown (hSB.alloc (.cells #[.int .i64 (kd:Int),.int .i64 mW.rows,.int .i64 mW.cols,.slice c6 n6 k6,.int .i64 mB.rows,.int .i64 mB.cols,.slice c7' n7 k7] 84)) hgrow (HO9.out _ (by omega))
   have hGG:=Box.grown (hGA.alloc (.cells #[.int .i64 (kd:Int),.int .i64 mW.rows,.int .i64 mW.cols,.slice c6 n6 k6,.int .i64 mB.rows,.int .i64 mB.cols,.slice c7' n7 k7] 84)) hgrow (HO9.out _ (by omega))
   have hEG:=Box.grown (hEB.alloc (.cells #[.int .i64 (kd:Int),.int .i64 mW.rows,.int .i64 mW.cols,.slice c6 n6 k6,.int .i64 mB.rows,.int .i64 mB.cols,.slice c7' n7 k7] 84)) hgrow (HO9.out _ (by omega))
   have hBG:=Box.grown (hBB.alloc (.cells #[.int .i64 (kd:Int),.int .i64 mW.rows,.int .i64 mW.cols,.slice c6 n6 k6,.int .i64 mB.rows,.int .i64 mB.cols,.slice c7' n7 k7] 84)) hgrow (HO9.out _ (by omega))
   have u9:=IntsAt.grown (v9.alloc (.cells #[.int .i64 (kd:Int),.int .i64 mW.rows,.int .i64 mW.cols,.slice c6 n6 k6,.int .i64 mB.rows,.int .i64 mB.cols,.slice c7' n7 k7] 84)) hgrow (fun hh=>HO9.out _ (by have:=q9 hh;omega))
   have uA:=IntsAt.grown (vA.alloc (.cells #[.int .i64 (kd:Int),.int .i64 mW.rows,.int .i64 mW.cols,.slice c6 n6 k6,.int .i64 mB.rows,.int .i64 mB.cols,.slice c7' n7 k7] 84)) hgrow (fun hh=>HO9.out _ (by have:=qA hh;omega))
   have hbG:Below w.heap.size w wG:=Below.grown (show Below w.heap.size w _ from (Below.y0 hbB)) hgrow (by have:=hbB.size;simp;omega) (fun q hq=>by have:=(HON.out q hq).1;omega)
   have hSGz:=hSG.lt
   have hsG:wA.heap.size+2≤wG.heap.size:=by have h:=hgrow.size;simp at h;omega
   clear hTC hown1 hgrow hlies hSB hLB hGA hEB hBB v6 v7 v9 vA d0 d1 p0 p1 p2 p3 p4 p5 p6 hgal hbB r6 r7 hlt1
   have hS9:=hSG.set 0 (.slice (some ⟨g1,0,none⟩) (t+1) cap1)
   have hG9:=hGG.far (a:=⟨w2.heap.size,0,none⟩) (by dsimp only;omega) (.slice (some ⟨g1,0,none⟩) (t+1) cap1)
   have hE9:=hEG.far (a:=⟨w2.heap.size,0,none⟩) (by dsimp only;omega) (.slice (some ⟨g1,0,none⟩) (t+1) cap1)
   have hB9:=hBG.far (a:=⟨w2.heap.size,0,none⟩) (by dsimp only;omega) (.slice (some ⟨g1,0,none⟩) (t+1) cap1)
   have hT9:=hTW.set (a:=⟨w2.heap.size,0,none⟩) (by dsimp only;omega) (.slice (some ⟨g1,0,none⟩) (t+1) cap1)
   have hb9:Below w.heap.size w (wG.setCell ⟨w2.heap.size,0,none⟩ (.slice (some ⟨g1,0,none⟩) (t+1) cap1)):=hbG.setCell (by dsimp only;omega) _
   have i9:IntsAt (wG.setCell ⟨w2.heap.size,0,none⟩ (.slice (some ⟨g1,0,none⟩) (t+1) cap1)) c9 n9 k9 b9 o9 vW.cells:=IntsAt.set u9 (fun hh=>by dsimp only;have:=q9 hh;omega) _
   have iA:IntsAt (wG.setCell ⟨w2.heap.size,0,none⟩ (.slice (some ⟨g1,0,none⟩) (t+1) cap1)) cA nA kA bA oA vB.cells:=IntsAt.set uA (fun hh=>by dsimp only;have:=qA hh;omega) _
   have d0:=hSG.cell 0
   have d1:=hSG.cell 1
   have fz:=hSG.thawed 0
   have s1:=hS9.cell 1
   have p0:=hG9.cell 0
   have p1:=hG9.cell 1
   have p2:=hG9.cell 2
   have p3:=hG9.cell 3
   have p4:=hG9.cell 4
   have p5:=hG9.cell 5
   clear hTW hSG hGG hEG hBG hbG u9 uA
   go_wp2_with (at_builtin;refine wpList_push rfl (.tmp 102) (.tmp 104) 23 rfl Form.grd (w2.heap.size+1) E' 86 i1 (.agg #[.int .i64 0,.int .i64 0,.slice none 0 0,.int .i64 0,.int .i64 0,.slice none 0 0]) 80 Tryz.underlying23 hi' hz0' hz1' hz2' rfl (by decide) vV V rfl ?c1 wG.heap.size 1 [.int .i64 vW.rows,.int .i64 vW.cols,.slice c9 n9 k9,.int .i64 vB.rows,.int .i64 vB.cols,.slice cA nA kA] 86 ⟨vW,vB⟩ rfl ?c2 ?c3 ?c4 ?c5 ?c6 _ rfl ?_)
   case c1=>exact OwnRow.keep hT9.own2 Below.x0
   case c2=>exact Box.x0
   case c3=>exact reads_grd (d:=⟨vW,vB⟩) (F:=fun b=>E' b∧vV.ownBlock≠some b) (b:=b9) (b':=bA) (o:=o9) (o':=oA) r9 i9.k rA iA.k
   case c4=>exact HVM.out
   case c5=>exact HVM'.out
   case c6=>simp;omega
   intro g2 cap2 wJ hown2 hgrow2 hlies2 hlt2
   have hTX:=(hT9.keep (w':=(wG.setCell ⟨w2.heap.size,0,none⟩ (.slice (some ⟨g1,0,none⟩) (t+1) cap1)).alloc (.cells #[.int .i64 vW.rows,.int .i64 vW.cols,.slice c9 n9 k9,.int .i64 vB.rows,.int .i64 vB.cols,.slice cA nA kA] 86)) Below.x0).second (by decide) hown2 hgrow2 (hlies2.imp_right (fun e=>by rw [e];simp))
   have HOX:Hid (∀ k,wr.heap.size≤k∨k≤w2.heap.size→some k≠vV.ownBlock):=Lib.hid (fun k hk e=>by have:=HOV.out k e.symm;omega)
   have hSX:=Box.grown (hS9.alloc (.cells #[.int .i64 vW.rows,.int .i64 vW.cols,.slice c9 n9 k9,.int .i64 vB.rows,.int .i64 vB.cols,.slice cA nA kA] 86)) hgrow2 (HOX.out _ (by omega))
   have hEX:=Box.grown (hE9.alloc (.cells #[.int .i64 vW.rows,.int .i64 vW.cols,.slice c9 n9 k9,.int .i64 vB.rows,.int .i64 vB.cols,.slice cA nA kA] 86)) hgrow2 (HOX.out _ (by omega))
   have hBX:=Box.grown (hB9.alloc (.cells #[.int .i64 vW.rows,.int .i64 vW.cols,.slice c9 n9 k9,.int .i64 vB.rows,.int .i64 vB.cols,.slice cA nA kA] 86)) hgrow2 (HOX.out _ (by omega))
   have hbX:Below w.heap.size w wJ:=Below.grown (show Below w.heap.size w _ from (Below.y0 hb9)) hgrow2 (by have:=hb9.size;simp at this;simp;omega) (fun q hq=>by have:=(HOV.out q hq).1;omega)
   have s0:=hSX.cell 0
   have s1:=hSX.cell 1
   have fz:=hSX.thawed 1
   have hSF:Box (wJ.setCell ⟨w2.heap.size,1,none⟩ (.slice (some ⟨g2,0,none⟩) (t+1) cap2)) w2.heap.size [(.slice (some ⟨g1,0,none⟩) (t+1) cap1),(.slice (some ⟨g2,0,none⟩) (t+1) cap2),.int .i64 (steps:Int)] 30:=hSX.set 1 _
   have hEF:=hEX.far (a:=⟨w2.heap.size,1,none⟩) (by dsimp only;omega) (.slice (some ⟨g2,0,none⟩) (t+1) cap2)
   have hBF:=hBX.far (a:=⟨w2.heap.size,1,none⟩) (by dsimp only;omega) (.slice (some ⟨g2,0,none⟩) (t+1) cap2)
   have hTF:=hTX.set (a:=⟨w2.heap.size,1,none⟩) (by dsimp only;omega) (.slice (some ⟨g2,0,none⟩) (t+1) cap2)
   have hbF:Below w.heap.size w (wJ.setCell ⟨w2.heap.size,1,none⟩ (.slice (some ⟨g2,0,none⟩) (t+1) cap2)):=hbX.setCell (by dsimp only;omega) _
   have HALL:=Lib.hid (And.intro hSF (And.intro hTF (And.intro hEF (And.intro hBF hbF))))
   have HEL:=Lib.hid (HLs.out.step (EyeP.mk HN5.out HN6.out HN7.out HN9.out HNA.out))
   clear hSF hTF hEF hBF hbF hTX hSX hEX hBX hbX hown2 hgrow2 hlies2 hlt2 hT9 hS9 hG9 hE9 hB9 hb9 i9 iA HO9 HOX HLs HN5 HN6 HN7 HN9 HNA r9 rA q6 q7 q9 qA p0 p1 p2 p3 p4 p5 d0 d1 t6 t7
   go_wp2
   go_roundw
   case rel=>exact ⟨t+1,aA,okA,_,_,N++[⟨kd,mW,mB⟩],V++[⟨vW,vB⟩],E',by omega,by go_num,haA,by rw [List.length_append,hNl];rfl,by rw [List.length_append,hVl];rfl,HALL.out.1,HALL.out.2.1,HALL.out.2.2.1,HALL.out.2.2.2.1,HALL.out.2.2.2.2,HEL⟩
   case measure=>simp [intOf];omega
  ·obtain rfl:n=t:=by omega
   obtain ⟨av,cv,bv,hv,_,hrw⟩:=hT.own1.row (G:=fun c=>w.heap.size<c) (fun c hc _=>by have:=(hT.ext c hc).2.1;omega) (fun c hc=>by omega)
   obtain ⟨au,cu,bu,hv',_,hru⟩:=hT.own2.row (G:=fun c=>w.heap.size<c) (fun c hc _=>by have:=(hT.ext c hc).2.1;omega) (fun c hc=>by omega)
   rw [hNl] at hv hrw
   rw [hVl] at hv' hru
   subst hv hv'
   have hlen:(bs.take m).length=m:=by rw [List.length_take,HL.out,HM.out];omega
   have HBODY:Hid (staRd bs=if okq=false∨atq≠m∨(Sta.mk N V steps).fault≠0 then none else some ⟨N,V,steps⟩):=Lib.hid (by rw [HS.out,body_is HN1.out HN2.out HC7.out HLs.out,hlen])
   obtain ⟨FA,hFA⟩:∃ FA,(Sta.mk N V steps).fault=FA:=⟨_,rfl⟩
   rw [hFA] at HBODY
   have HRW:=Lib.hid hrw
   have HRU:=Lib.hid hru
   have HFA:=Lib.hid hFA
   have hrz:=hSr.lt
   have y1:∀ q:Grown wr,q.w.cell? ⟨E,1,none⟩=some (eyeErr (.iface 218 (.pointer (some A))) okq):=fun q=>(Box.keep hEr q.below).cell 1
   have y0:∀ q:Grown wr,q.w.cell? ⟨E,0,none⟩=some (.slice (some ⟨b,o+atq,none⟩) (m - atq) (K - atq)):=fun q=>(Box.keep hEr q.below).cell 0
   have g0:∀ q:Grown wr,q.w.cell? ⟨0,0,none⟩=some (.iface 218 (.pointer (some A))):=fun q=>(HLk.out q.w (hbr.trans (q.below.mono hbr.size))).g
   have s0:∀ q:Grown wr,q.w.cell? ⟨w2.heap.size,0,none⟩=some (.slice av n cv):=fun q=>(hSr.keep q.below).cell 0
   have s1:∀ q:Grown wr,q.w.cell? ⟨w2.heap.size,1,none⟩=some (.slice au n cu):=fun q=>(hSr.keep q.below).cell 1
   have s2:∀ q:Grown wr,q.w.cell? ⟨w2.heap.size,2,none⟩=some (.int .i64 (steps:Int)):=fun q=>(hSr.keep q.below).cell 2
   have HIS:Hid (∀ W:World,Calls Tryz.prog 32 #[.iface 218 (.pointer (some A)),.iface 218 (.pointer (some A))] W fun e w'=>e=.returned (.bool true)∧Below W.heap.size W w'):=Lib.hid (fun W=>(is_same A W).mono (fun e w' hh=>⟨hh.1,by rw [hh.2];exact Below.refl _ _⟩))
   have HIN:Hid (∀ W:World,Calls Tryz.prog 32 #[.nilIface,.iface 218 (.pointer (some A))] W fun e w'=>e=.returned (.bool false)∧Below W.heap.size W w'):=Lib.hid (fun W=>(is_nil A W).mono (fun e w' hh=>⟨hh.1,by rw [hh.2];exact Below.refl _ _⟩))
   have HCK:Hid (∀ W:World,Below wr.heap.size wr W→Calls Tryz.prog 26 #[.agg #[.slice av n cv,.slice au n cu,.int .i64 (steps:Int)]] W fun e w'=>e=.returned (errV FA)∧Below W.heap.size W w'):=Lib.hid (fun W hW=>by
    rw [← HFA.out]
    exact trainCheck_any ⟨N,V,steps⟩ _ _ _ _ _ _ _ _ _ _ _ _ _ (HRW.out.keep hW) (HRU.out.keep hW))
   clear hT hrw hru hFA hlen HLs HN1 HN2 HC7 e7
   go_upto_region 19 with (fail)
   go_cut [126] (fun s wx=>s=.bool (decide (okq=false∨atq≠m∨FA≠0))∧Below wr.heap.size wr wx)
   case first=>
    cases okq with
    | false=>
     have y1':∀ q:Grown wr,q.w.cell? ⟨E,1,none⟩=some (.iface 218 (.pointer (some A))):=y1
     clear y1
     refine wp_region_grow (by kernel_rfl) (by kernel_rfl) ?_
     repeat (go_big_quiet_step ((go_at_call 32;rename_i q;exact Grown.call (HIS.out _))))
     refine wpQuiet_nil ?_
     intro _ hw'
     obtain ⟨q,rfl⟩:=hw'
     have hbF:=q.below
     go_wp2_with fail
     go_meet
     exact ⟨by simp,(Below.x1 hbF)⟩
    | true=>
     have y1':∀ q:Grown wr,q.w.cell? ⟨E,1,none⟩=some .nilIface:=y1
     clear y1
     by_cases hat:atq=m
     ·have y0':∀ q:Grown wr,q.w.cell? ⟨E,0,none⟩=some (.slice (some ⟨b,o+atq,none⟩) 0 (K - atq)):=fun q=>by rw [y0 q,hat,Nat.sub_self]
      have HAT:=Lib.hid hat
      have hck:=HCK.out
      clear y0 hat
      by_cases hz:FA=0
      ·rw [errV_nil hz] at hck
       have HCK:=Lib.hid hck
       have HZ:=Lib.hid hz
       clear hck hz
       refine wp_region_grow (by kernel_rfl) (by kernel_rfl) ?_
       repeat (go_big_quiet_step ((first|(go_at_call 32;rename_i q;exact Grown.call (HIN.out _))|(go_at_call 26;rename_i q;exact Grown.call (HCK.out _ q.below)))))
       refine wpQuiet_nil ?_
       intro _ hw'
       obtain ⟨q,rfl⟩:=hw'
       have hbF:=q.below
       go_wp2_with fail
       go_meet
       exact ⟨by simp [HAT.out,HZ.out],(Below.x1 hbF)⟩
      ·rw [errV_err hz] at hck
       have HCK:=Lib.hid hck
       have HZ:=Lib.hid hz
       clear hck hz
       refine wp_region_grow (by kernel_rfl) (by kernel_rfl) ?_
       repeat (go_big_quiet_step ((first|(go_at_call 32;rename_i q;exact Grown.call (HIN.out _))|(go_at_call 26;rename_i q;exact Grown.call (HCK.out _ q.below)))))
       refine wpQuiet_nil ?_
       intro _ hw'
       obtain ⟨q,rfl⟩:=hw'
       have hbF:=q.below
       go_wp2_with fail
       go_meet
       exact ⟨by simp [HZ.out],(Below.x1 hbF)⟩
     ·obtain ⟨D,hD⟩:∃ D,m - atq=D:=⟨_,rfl⟩
      have e9:((D:Int) > 0)=True:=eq_true (by omega)
      have hD0:0<D:=by omega
      have y0':∀ q:Grown wr,q.w.cell? ⟨E,0,none⟩=some (.slice (some ⟨b,o+atq,none⟩) D (K - atq)):=fun q=>by rw [y0 q,hD]
      have HAT:=Lib.hid hat
      clear y0 hat hD
      refine wp_region_grow (by kernel_rfl) (by kernel_rfl) ?_
      repeat (go_big_quiet_step ((first|(go_at_call 32;rename_i q;exact Grown.call (HIN.out _))|(go_at_call 26;rename_i q;exact Grown.call (HCK.out _ q.below)))))
      refine wpQuiet_nil ?_
      intro _ hw'
      obtain ⟨q,rfl⟩:=hw'
      have hbF:=q.below
      go_wp2_with fail
      go_meet
      exact ⟨by simp [HAT.out],(Below.x1 hbF)⟩
   case rest=>
    obtain ⟨rfl,hbc⟩:=hcut
    have hbw:Below w.heap.size w wc:=hbr.trans (hbc.mono hbr.size)
    have hBc:=hBr.keep hbc
    have hSc:=hSr.keep hbc
    by_cases hd:okq=false∨atq≠m∨FA≠0
    ·have hdd:decide (okq=false∨atq≠m∨FA≠0)=true:=decide_eq_true hd
     rw [hdd]
     have HNO:Hid (staRd bs=none):=Lib.hid (by rw [HBODY.out,if_pos hd])
     clear hd hdd
     have HBE:Hid (Below w.heap.size w (wc)):=Lib.hid (hbw)
     have hbx:=(((hBc).set 0 (.slice none 0 0)).set 1 (.slice none 0 0)).set 2 (.int .i64 0)
     have bz0:=hbx.cell 0
     have bz1:=hbx.cell 1
     have bz2:=hbx.cell 2
     have bk0:=(hBc).cell 0
     have bk1:=(hBc).cell 1
     have bk2:=(hBc).cell 2
     have bt0:=(hBc).thawed 0
     have bt1:=(hBc).thawed 1
     have bt2:=(hBc).thawed 2
     clear hbx
     go_wp2
     refine bodyPost_ret (v:=.tuple #[.agg #[.slice none 0 0,.slice none 0 0,.int .i64 0],.iface 36 (.int .i64 7)]) (by simp [results,Tryz.results13,go_sem,bz0,bz1,bz2]) rfl ⟨?_,Or.inl ⟨HNO.out,rfl⟩⟩
     exact ((HBE.out.setCell (Nat.le_refl _) _).setCell (Nat.le_refl _) _).setCell (Nat.le_refl _) _
    ·have hdd:decide (okq=false∨atq≠m∨FA≠0)=false:=decide_eq_false hd
     rw [hdd]
     have HYES:Hid (staRd bs=some ⟨N,V,steps⟩):=Lib.hid (by rw [HBODY.out,if_neg hd])
     clear hd hdd
     have c0:=hSc.cell 0
     have c1:=hSc.cell 1
     have c2:=hSc.cell 2
     have b0:=hBc.cell 0
     have b1:=hBc.cell 1
     have b2:=hBc.cell 2
     have t0:=hBc.thawed 0
     have t1:=hBc.thawed 1
     have t2:=hBc.thawed 2
     have bz:=((hBc.set 0 (.slice av n cv)).set 1 (.slice au n cu)).set 2 (.int .i64 (steps:Int))
     have z0:=bz.cell 0
     have z1:=bz.cell 1
     have z2:=bz.cell 2
     have hfz:Far (fun y=>y=w.heap.size) wr (((wc.setCell ⟨w.heap.size,0,none⟩ (.slice av n cv)).setCell ⟨w.heap.size,1,none⟩ (.slice au n cu)).setCell ⟨w.heap.size,2,none⟩ (.int .i64 (steps:Int))):=by
      have f0:Far (fun y=>y=w.heap.size) wr wc:=Far.of_below hbc
      have f1:=f0.st (a:=⟨w.heap.size,0,none⟩) (fun _=>rfl) (.slice av n cv)
      have f2:=f1.st (a:=⟨w.heap.size,1,none⟩) (fun _=>rfl) (.slice au n cu)
      exact f2.st (a:=⟨w.heap.size,2,none⟩) (fun _=>rfl) (.int .i64 (steps:Int))
     have hR0:=(HRW.out.farS hfz (fun c hc _ hh=>by have h1:c=w.heap.size:=hh;have h2:w.heap.size<c:=hc;omega)).wide (G:=fun b=>w.heap.size≤b) (fun c hc _=>Nat.le_of_lt hc)
     have hR1:=(HRU.out.farS hfz (fun c hc _ hh=>by have h1:c=w.heap.size:=hh;have h2:w.heap.size<c:=hc;omega)).wide (G:=fun b=>w.heap.size≤b) (fun c hc _=>Nat.le_of_lt hc)
     have hbz:Below w.heap.size w (((wc.setCell ⟨w.heap.size,0,none⟩ (.slice av n cv)).setCell ⟨w.heap.size,1,none⟩ (.slice au n cu)).setCell ⟨w.heap.size,2,none⟩ (.int .i64 (steps:Int))):=((hbw.setCell (Nat.le_refl _) _).setCell (Nat.le_refl _) _).setCell (Nat.le_refl _) _
     have HALL:=Lib.hid (And.intro hR0 (And.intro hR1 hbz))
     clear hR0 hR1 hbz hfz bz
     go_wp2
     refine bodyPost_ret (v:=.tuple #[.agg #[.slice av n cv,.slice au n cu,.int .i64 (steps:Int)],.nilIface]) (by simp [results,Tryz.results13,go_sem,z0,z1,z2]) rfl ⟨HALL.out.2.2,Or.inr ⟨_,_,HYES.out,rfl,⟨_,_,_,_,_,_,_,_,_,_,rfl,HALL.out.1,HALL.out.2.1⟩⟩⟩
end Go.Proofs.YtchngeagnlngaaaGreatDoor
end
