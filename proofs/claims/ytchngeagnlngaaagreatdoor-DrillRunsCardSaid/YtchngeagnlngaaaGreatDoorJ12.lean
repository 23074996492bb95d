/- Texts joined: Batch3, Same, SameM. -/
import Derived.Test.YtchngeagnlngaaaGreatDoorJ11
import Derived.Test.YtchngeagnlngaaaGreatDoorJ10
import Derived.Test.YtchngeagnlngaaaGreatDoorJ06
import Derived.Test.YtchngeagnlngaaaGreatDoorJ05
import Derived.Test.YtchngeagnlngaaaGreatDoorJ01
import Derived.BigQuiet
import Derived.IntWalk
import Derived.RegionTactic
set_option linter.unusedVariables false
set_option linter.unusedSimpArgs false
set_option linter.unusedSectionVars false
section
namespace Go.Proofs.YtchngeagnlngaaaGreatDoor
open Go.RowKit Gal
theorem info_bat:(Tryz.prog.info? 43).map (fun i=>(i.zero,i.size,i.bytes))=some (some (.agg #[.int .i64 0,.int .i64 0,.slice none 0 0,.int .i64 0,.int .i64 0,.slice none 0 0]),6,80):=by kernel_rfl
set_option maxRecDepth 100000
set_option maxHeartbeats 2000000
theorem batchSplit_any (d:Bat) (p:Int) (v:Value) (w:World) (h:BatAt w v d) :
  Calls Tryz.prog 82 #[v,.int .i64 p] w fun e w'=>∃ u,e=.returned (.tuple #[u,errV (splitFault d p)])∧Below w.heap.size w w' ∧
   (splitFault d p=0→∃ a k b,u=.slice a p.toNat k∧RowAt Form.bat w' (newB w.heap.size) a p.toNat k b 0 (partsTo d (sizesOf d.I.rows.toNat p.toNat) p.toNat))∧(splitFault d p≠0→u=.slice none 0 0):=by
 obtain ⟨i0,hi,hz0,hz1,hz2⟩:=info_parts info_bat
 obtain ⟨a,n,k,b,o,a',n',k',b',o',rfl,x0,x1⟩:=h
 by_cases hd:d.fault=0
 ·have HE:Hid (errV d.fault=.nilIface):=Lib.hid (errV_nil hd)
  have HF:Hid (splitFault d p=sizesFault d.I.rows p):=Lib.hid (by unfold splitFault;rw [if_neg (by simp [hd])])
  rw [HF.out]
  by_cases hs:sizesFault d.I.rows p=0
  ·obtain ⟨f1,f2,f3,f4⟩:=Bat.fault_ok hd
   obtain ⟨g1,g2,g3,g4,g5⟩:=sizesFault_ok hs
   obtain ⟨R,hR⟩:=Int.eq_ofNat_of_zero_le (show 0≤d.I.rows by omega)
   obtain ⟨P,rfl⟩:=Int.eq_ofNat_of_zero_le (show 0≤p by omega)
   rw [hR] at g1 g2 g5
   have hRn:d.I.rows.toNat=R:=by rw [hR];simp
   rw [hRn]
   simp only [Int.toNat_natCast]
   obtain ⟨s,hsz⟩:∃ s,sizesOf R P=s:=⟨_,rfl⟩
   have hsl:s.length=P:=by rw [← hsz];exact sizesOf_length P R
   have hss:s.sum=R:=by rw [← hsz];exact sizesOf_sum P R (by omega)
   have PI:Hid (∀ k,rowsFault d.I (atOf s k) (atOf s (k+1))=0):=Lib.hid fun k=>part_fault f1 (by rw [hss,hR])
   have PW:Hid (∀ k,rowsFault d.W (atOf s k) (atOf s (k+1))=0):=Lib.hid fun k=>part_fault f2 (by rw [hss,← f3,hR])
   have HLE:Hid (∀ k,atOf s k≤24):=Lib.hid fun k=>by have:=atOf_le s k;omega
   rw [hsz]
   have HS0:=Lib.hid hs
   have HSZ:=Lib.hid hsz
   have HSL:=Lib.hid hsl
   have HRR:=Lib.hid hR
   rw [hR] at hs
   have HS:=Lib.hid hs
   have HBS:Hid (∀ W,Calls Tryz.prog 97 #[.int .i64 d.I.rows,.int .i64 P] W fun e w'=>∃ v,e=.returned (.tuple #[v,.nilIface])∧w'.ownsRow W.heap.size 3 1 v P ((ints s).map (Value.int .i64))∧Below W.heap.size W w'):=Lib.hid fun W=>by
    have:=batchSizes_ok R P W (by omega) (by omega) (by omega) (by omega)
    rw [hsz,← hR] at this
    exact this
   clear hd hs f1 f2 f3 f4 hsz hsl hss hR hRn HSZ HRR
   go_enter Tryz.func82,Tryz.ntmps82
   go_wp2_with fail
   refine (batchCheck_any d _ _ ⟨_,_,_,_,_,_,_,_,_,_,rfl,x0.alloc _,x1.alloc _⟩).mono ?_
   rw [HE.out]
   rintro e w1 ⟨rfl,hb1⟩
   have B2:=((show Box _ w.heap.size [.int .i64 d.I.rows,.int .i64 d.I.cols,.slice a n k,.int .i64 d.W.rows,.int .i64 d.W.cols,.slice a' n' k'] 43 from Box.x0)).keep hb1
   have B2c:=B2.cell
   have B2f:=B2.thawed
   have B2z:=B2.lt
   have B2k:=lt_add B2z
   have hkw1:Below w.heap.size w w1:=(Below.x1 hb1)
   replace x0:=x0.keep hkw1
   replace x1:=x1.keep hkw1
   have hsw1:=hkw1.size
   go_wp2_with fail
   refine (HBS.out _).mono ?_
   rintro e w2 ⟨vq,rfl,hown,hb2⟩
   have hkw2:Below w1.heap.size w1 w2:=(Below.x1 hb2)
   replace B2:=B2.keep hkw2
   replace B2c:=B2.cell
   replace B2f:=B2.thawed
   replace B2z:=B2.lt
   replace B2k:=lt_add B2z
   replace x0:=x0.keep hkw2
   replace x1:=x1.keep hkw2
   have hsw2:=hkw2.size
   obtain ⟨aq,cq,bq,rfl,hbq,xs⟩:=IntsAt.of_own hown
   clear hown
   have hsi:Hid (∀ k,k<P→ix (ints s) k=(nx s k:Int)):=Lib.hid fun k hk=>by unfold ix ints nx;rw [List.getElem?_map,List.getElem?_eq_getElem (by rw [HSL.out];exact hk)];rfl
   have hbw2:Below w.heap.size w w2:=(Below.x2 hb2 hb1)
   have hz1':w.heap.size+1≤w2.heap.size:=by have:=B2z;omega
   go_wp2
   go_loopw [9,10,32] (fun u t j wr=>∃ q:Nat,q≤P∧j=.int .i64 q∧t=.int .i64 (atOf s q)∧OwnRow Form.bat 43 wr w2.heap.size (newB (w.heap.size+1)) u (partsTo d s q)∧Below w2.heap.size w2 wr) (fun _ _ j _=>P - (intOf j).toNat)
   case atStart=>exact ⟨0,Nat.zero_le _,rfl,rfl,OwnRow.nil _ _ _ _ _,Below.refl _ _⟩
   case round=>
    obtain ⟨q,hq,rfl,rfl,hown,hbr⟩:=hrel
    have hkwr:Below w2.heap.size w2 wr:=(Below.x1 hbr)
    replace B2:=B2.keep hkwr
    replace B2c:=B2.cell
    replace B2f:=B2.thawed
    replace B2z:=B2.lt
    replace B2k:=lt_add B2z
    replace x0:=x0.keep hkwr
    replace x1:=x1.keep hkwr
    replace xs:=xs.keep hkwr
    obtain ⟨av,cv,hv⟩:=hown.slice
    rw [partsTo_length] at hv
    subst hv
    have HL:=Lib.hid (partsTo_length d s q)
    by_cases hlt:q<P
    ·obtain rfl:=xs.ptr (by omega)
     have cc:=xs.cell q hlt
     rw [hsi.out q hlt] at cc
     have hle:=HLE.out q
     have hle1:=HLE.out (q+1)
     have hat:(atOf s q:Int)+(nx s q:Int)=(atOf s (q+1):Int):=by show _=((atOf s q+nx s q:Nat):Int);omega
     have hw1:IntKind.i64.wrap ((atOf s q:Int)+(nx s q:Int))=(atOf s (q+1):Int):=by rw [hat];exact IntWalk.i64_in _ (by omega)
     have HAT:=Lib.hid hat
     clear hat
     rw [Nat.zero_add] at cc
     have hzw:w2.heap.size≤wr.heap.size:=hbr.size
     have hb2z:w.heap.size<wr.heap.size:=B2z
     have l1:0<n'→b'<wr.heap.size:=x1.lt
     have l0:0<n→b<wr.heap.size:=x0.lt
     have lq:0<P→bq<wr.heap.size:=xs.lt
     have hrowq:∀ r,(Value.slice av q cv).ownBlock=some r→w2.heap.size≤r∧r<wr.heap.size:=fun r hr=>hown.base_le r hr
     go_wp2_with fail
     refine (matRows_new d.I _ (atOf s q) (atOf s (q+1)) _ (MatAt.mk (x0.alloc _)) (PI.out q)).mono ?_
     rintro e w5 ⟨v5,rfl,⟨a5,n5,k5,b5,o5,rfl,hn5,x5⟩,hb5⟩
     have T13:Box w5 wr.heap.size [.int .i64 0,.int .i64 0,.slice none 0 0,.int .i64 0,.int .i64 0,.slice none 0 0] 43:=Box.keep Box.x0 hb5
     have T13:=T13
     have T13c:=T13.cell
     have T13f:=T13.thawed
     have T13z:=T13.lt
     have T13k:=lt_add T13z
     have hbA:Below wr.heap.size wr w5:=(Below.x1 hb5)
     have hkw5:Below wr.heap.size wr w5:=(Below.x1 hbA)
     replace B2:=B2.keep hkw5
     replace B2c:=B2.cell
     replace B2f:=B2.thawed
     replace B2z:=B2.lt
     replace B2k:=lt_add B2z
     replace x0:=x0.keep hkw5
     replace x1:=x1.keep hkw5
     replace xs:=xs.keep hkw5
     have hown':OwnRow Form.bat 43 w5 w2.heap.size (fun c=>newB (w.heap.size+1) c∧c<wr.heap.size) (.slice av q cv) (partsTo d s q):=(hown.wide (G:=fun c=>newB (w.heap.size+1) c∧c<wr.heap.size) (fun c hc hl=>⟨hc,hl⟩)).keep hbA
     have l5:0<n5→wr.heap.size<b5:=fun h=>by have:=hn5 h;simp at this;omega
     have l5':=x5.lt
     have hne:(Value.slice av q cv).ownBlock≠some wr.heap.size:=fun e=>by have:=(hrowq _ e).2;omega
     have hbB:Below w2.heap.size w2 w5:=(Below.y1 hbA hbr)
     obtain ⟨wA,hqA,B2A,T13A,x1A,xsA,x5A,hownA,hbwA,hzA⟩:∃ wA,((w5.setCell ⟨wr.heap.size,0,none⟩ (.int .i64 (matRows d.I (atOf s q) (atOf s (q+1))).rows)).setCell ⟨wr.heap.size,1,none⟩ (.int .i64 (matRows d.I (atOf s q) (atOf s (q+1))).cols)).setCell ⟨wr.heap.size,2,none⟩ (.slice a5 n5 k5)=wA∧Box wA w.heap.size [.int .i64 d.I.rows,.int .i64 d.I.cols,.slice a n k,.int .i64 d.W.rows,.int .i64 d.W.cols,.slice a' n' k'] 43∧Box wA wr.heap.size [.int .i64 (partOf d s q).I.rows,.int .i64 (partOf d s q).I.cols,.slice a5 n5 k5,.int .i64 0,.int .i64 0,.slice none 0 0] 43∧IntsAt wA a' n' k' b' o' d.W.cells∧IntsAt wA (some ⟨bq,0,none⟩) P cq bq 0 (ints s) ∧
       IntsAt wA a5 n5 k5 b5 o5 (partOf d s q).I.cells∧OwnRow Form.bat 43 wA w2.heap.size (fun c=>newB (w.heap.size+1) c∧c<wr.heap.size) (.slice av q cv) (partsTo d s q)∧Below w2.heap.size w2 wA∧wr.heap.size<wA.heap.size:=
      ⟨_,rfl,B2.k,((T13.set 0 _).set 1 _).set 2 _,(by repeat (first|(with_reducible first|exact x1|refine IntsAt.alloc ?_ _|refine IntsAt.drewN ?_ _|refine IntsAt.drew ?_|(refine IntsAt.set ?_ ?_ _;rotate_left 1;(intro h0;have hq0:=l1 h0;first|(dsimp only;omega)|omega|(simp;omega)|simp)))|exact x1)),(by repeat (first|(with_reducible first|exact xs|refine IntsAt.alloc ?_ _|refine IntsAt.drewN ?_ _|refine IntsAt.drew ?_|(refine IntsAt.set ?_ ?_ _;rotate_left 1;(intro h0;have hq0:=lq h0;first|(dsimp only;omega)|omega|(simp;omega)|simp)))|exact xs)),(by repeat (first|(with_reducible first|exact x5|refine IntsAt.alloc ?_ _|refine IntsAt.drewN ?_ _|refine IntsAt.drew ?_|(refine IntsAt.set ?_ ?_ _;rotate_left 1;(intro h0;have hq0:=l5 h0;first|(dsimp only;omega)|omega|(simp;omega)|simp)))|exact x5)),((hown'.set hne (fun h=>Nat.lt_irrefl _ h.2) _).set hne (fun h=>Nat.lt_irrefl _ h.2) _).set hne (fun h=>Nat.lt_irrefl _ h.2) _,(Below.y0 hbB),by simpa [World.setCell] using T13z⟩
     have B2A:=B2A
     have B2Ac:=B2A.cell
     have B2Af:=B2A.thawed
     have B2Az:=B2A.lt
     have B2Ak:=lt_add B2Az
     have T13A:=T13A
     have T13Ac:=T13A.cell
     have T13Af:=T13A.thawed
     have T13Az:=T13A.lt
     have T13Ak:=lt_add T13Az
     go_wp2_with fail
     refine (matRows_new d.W _ (atOf s q) (atOf s (q+1)) _ (MatAt.mk x1A) (PW.out q)).mono ?_
     rintro e w6 ⟨v6,rfl,⟨a6,n6,k6,b6,o6,rfl,hn6,x6⟩,hb6⟩
     clear B2 B2c B2f B2z B2k T13 T13c T13f T13z T13k x0 x1 xs x5 hown hown'
     have hkw6:Below wA.heap.size wA w6:=(Below.x1 hb6)
     replace T13A:=T13A.keep hkw6
     replace T13Ac:=T13A.cell
     replace T13Af:=T13A.thawed
     replace T13Az:=T13A.lt
     replace T13Ak:=lt_add T13Az
     replace xsA:=xsA.keep hkw6
     replace x5A:=x5A.keep hkw6
     replace hownA:=hownA.keep hb6
     have l6:0<n6→wr.heap.size<b6:=fun h=>by have:=hn6 h;omega
     have hbC:Below w2.heap.size w2 w6:=(Below.y1 hb6 hbwA)
     obtain ⟨wB,hqB,T13B,xsB,x5B,x6B,hownB,hbwB,hzB⟩:∃ wB,((w6.setCell ⟨wr.heap.size,3,none⟩ (.int .i64 (matRows d.W (atOf s q) (atOf s (q+1))).rows)).setCell ⟨wr.heap.size,4,none⟩ (.int .i64 (matRows d.W (atOf s q) (atOf s (q+1))).cols)).setCell ⟨wr.heap.size,5,none⟩ (.slice a6 n6 k6)=wB∧Box wB wr.heap.size [.int .i64 (partOf d s q).I.rows,.int .i64 (partOf d s q).I.cols,.slice a5 n5 k5,.int .i64 (partOf d s q).W.rows,.int .i64 (partOf d s q).W.cols,.slice a6 n6 k6] 43∧IntsAt wB (some ⟨bq,0,none⟩) P cq bq 0 (ints s) ∧
       IntsAt wB a5 n5 k5 b5 o5 (partOf d s q).I.cells∧IntsAt wB a6 n6 k6 b6 o6 (partOf d s q).W.cells∧OwnRow Form.bat 43 wB w2.heap.size (fun c=>newB (w.heap.size+1) c∧c≠wr.heap.size) (.slice av q cv) (partsTo d s q)∧Below w2.heap.size w2 wB∧wr.heap.size<wB.heap.size:=
      ⟨_,rfl,((T13A.set 3 _).set 4 _).set 5 _,(by repeat (first|(with_reducible first|exact xsA|refine IntsAt.alloc ?_ _|refine IntsAt.drewN ?_ _|refine IntsAt.drew ?_|(refine IntsAt.set ?_ ?_ _;rotate_left 1;(intro h0;have hq0:=lq h0;first|(dsimp only;omega)|omega|(simp;omega)|simp)))|exact xsA)),(by repeat (first|(with_reducible first|exact x5A|refine IntsAt.alloc ?_ _|refine IntsAt.drewN ?_ _|refine IntsAt.drew ?_|(refine IntsAt.set ?_ ?_ _;rotate_left 1;(intro h0;have hq0:=l5 h0;first|(dsimp only;omega)|omega|(simp;omega)|simp)))|exact x5A)),(by repeat (first|(with_reducible first|exact x6|refine IntsAt.alloc ?_ _|refine IntsAt.drewN ?_ _|refine IntsAt.drew ?_|(refine IntsAt.set ?_ ?_ _;rotate_left 1;(intro h0;have hq0:=l6 h0;first|(dsimp only;omega)|omega|(simp;omega)|simp)))|exact x6)),(((hownA.wide (G:=fun c=>newB (w.heap.size+1) c∧c≠wr.heap.size) (fun c hc _=>⟨hc.1,by have:=hc.2;omega⟩)).set hne (fun h=>h.2 rfl) _).set hne (fun h=>h.2 rfl) _).set hne (fun h=>h.2 rfl) _,(Below.y0 hbC),by simpa [World.setCell] using T13Az⟩
     have T13B:=T13B
     have T13Bc:=T13B.cell
     have T13Bf:=T13B.thawed
     have T13Bz:=T13B.lt
     have T13Bk:=lt_add T13Bz
     go_wp2_with (at_builtin;refine wpList_push rfl (.tmp 58) (.tmp 60) 26 rfl Form.bat w2.heap.size (newB (w.heap.size+1)) 43 i0 (.agg #[.int .i64 0,.int .i64 0,.slice none 0 0,.int .i64 0,.int .i64 0,.slice none 0 0]) 80 Tryz.underlying26 hi hz0 hz1 hz2 rfl (by decide) (.slice av q cv) (partsTo d s q) rfl ((hownB.wide (fun c hc _=>hc.1)).keep ((Below.refl wB.heap.size wB).alloc (Nat.le_refl _) _)) wB.heap.size 1 [.int .i64 (partOf d s q).I.rows,.int .i64 (partOf d s q).I.cols,.slice a5 n5 k5,.int .i64 (partOf d s q).W.rows,.int .i64 (partOf d s q).W.cols,.slice a6 n6 k6] 43 (partOf d s q) rfl (Box.new _ _ _) (reads_bat (fun h=>⟨by have:=l5 h;unfold newB;omega,fun e=>by have:=(hrowq _ e).2;have:=l5 h;omega⟩) (x5B.alloc _) (fun h=>⟨by have:=l6 h;unfold newB;omega,fun e=>by have:=(hrowq _ e).2;have:=l6 h;omega⟩) (x6B.alloc _)) (by rw [HL.out];omega) (by rw [HL.out];unfold maxLen;omega) (by have:=hbwB.size;simp;omega) _ rfl ?_)
     intro g cap w' hown7 hgrow hgv hgl
     have hbn:Below w2.heap.size w2 w':=Below.grown (Below.al hbwB _) hgrow (by have:=hbwB.size;simp;omega) (fun r hr=>(hrowq r hr).1)
     go_wp2
     go_roundw
     case rel=>exact ⟨q+1,by omega,by go_num,rfl,by rw [partsTo_succ];exact hown7,hbn⟩
     case measure=>simp [intOf];omega
    ·obtain rfl:q=P:=by omega
     have hbe:Below w.heap.size w wr:=(Below.y1 hbr hbw2)
     obtain ⟨av',cv',bb,hv,hbb,hrow⟩:=hown.row (G:=newB w.heap.size) (fun c hc _=>by unfold newB at *;omega) (fun c hc=>by unfold newB;omega)
     rw [partsTo_length] at hv hbb hrow
     have HR:=Lib.hid (show ∃ a k b,Value.slice av q cv=.slice a q k∧RowAt Form.bat wr (newB w.heap.size) a q k b 0 (partsTo d s q) from ⟨_,_,_,hv,hrow⟩)
     clear hv hown hrow B2 B2c B2f B2z B2k x0 x1 xs
     go_wp2
     refine bodyPost_ret (v:=.tuple #[.slice av q cv,.nilIface]) (by simp [results,Tryz.results82,go_sem]) rfl ⟨.slice av q cv,?_,hbe,?_,?_⟩
     ·rw [HS0.out,errV_nil rfl]
     ·exact fun _=>HR.out
     ·exact fun h=>absurd HS0.out h
  ·have HN:=Lib.hid hs
   have HES:Hid (errV (sizesFault d.I.rows p)=.iface 36 (.int .i64 (sizesFault d.I.rows p))):=Lib.hid (errV_err hs)
   clear hs hd
   go_enter Tryz.func82,Tryz.ntmps82
   go_wp2_with fail
   refine (batchCheck_any d _ _ ⟨_,_,_,_,_,_,_,_,_,_,rfl,x0.alloc _,x1.alloc _⟩).mono ?_
   rw [HE.out]
   rintro e w1 ⟨rfl,hb1⟩
   have B2:=((show Box _ w.heap.size [.int .i64 d.I.rows,.int .i64 d.I.cols,.slice a n k,.int .i64 d.W.rows,.int .i64 d.W.cols,.slice a' n' k'] 43 from Box.x0)).keep hb1
   have B2c:=B2.cell
   have B2f:=B2.thawed
   have B2z:=B2.lt
   have B2k:=lt_add B2z
   go_wp2_with fail
   refine (batchSizes_bad d.I.rows p _ HN.out).mono ?_
   rintro e w' ⟨rfl,rfl⟩
   go_wp2
   refine bodyPost_ret (v:=.tuple #[.slice none 0 0,.iface 36 (.int .i64 (sizesFault d.I.rows p))]) (by simp [results,Tryz.results82,go_sem]) rfl ⟨.slice none 0 0,?_,(Below.x1 hb1),?_,?_⟩
   ·rw [HES.out]
   ·exact fun h=>absurd h HN.out
   ·exact fun _=>rfl
 ·have HF:Hid (splitFault d p=d.fault):=Lib.hid (by unfold splitFault;rw [if_pos hd])
  have HE:Hid (errV d.fault=.iface 36 (.int .i64 d.fault)):=Lib.hid (errV_err hd)
  have HN:=Lib.hid hd
  rw [HF.out]
  clear hd
  go_enter Tryz.func82,Tryz.ntmps82
  go_wp2_with fail
  refine (batchCheck_any d _ _ ⟨_,_,_,_,_,_,_,_,_,_,rfl,x0.alloc _,x1.alloc _⟩).mono ?_
  rw [HE.out]
  rintro e w1 ⟨rfl,hb1⟩
  go_wp2
  refine bodyPost_ret (v:=.tuple #[.slice none 0 0,.iface 36 (.int .i64 d.fault)]) (by simp [results,Tryz.results82,go_sem]) rfl ⟨.slice none 0 0,?_,(Below.x1 hb1),?_,?_⟩
  ·rw [HE.out]
  ·exact fun h=>absurd h HN.out
  ·exact fun _=>rfl
end Go.Proofs.YtchngeagnlngaaaGreatDoor
end
section
namespace Go.Proofs.YtchngeagnlngaaaGreatDoor
open Go.RowKit Gal
set_option maxRecDepth 100000 in
set_option maxHeartbeats 1000000 in
theorem matrices_any (ma mb:Mat) (va vb:Value) (w:World) (ha:MatAt w va ma) (hb:MatAt w vb mb) :
  Calls Tryz.prog 51 #[va,vb] w fun e w'=>e=.returned (.bool (decide (ma=mb)))∧Below w.heap.size w w':=by
 obtain ⟨r0,c0,xs⟩:=ma
 obtain ⟨r1,c1,ys⟩:=mb
 obtain ⟨a0,n0,k0,b0,o0,rfl,h0⟩:=ha
 obtain ⟨a1,n1,k1,b1,o1,rfl,h1⟩:=hb
 dsimp only at h0 h1
 by_cases h:r0=r1∧c0=c1
 ·obtain ⟨rfl,rfl⟩:=h
  have e1:(r0 != r0)=false:=by simp
  have e2:(c0 != c0)=false:=by simp
  go_enter Tryz.func51,Tryz.ntmps51
  go_wp2_with fail
  refine (ints_any _ _ _ _ _ _ _ _ _ _ xs ys _ (h0.alloc _ |>.alloc _) (h1.alloc _ |>.alloc _)).mono ?_
  rintro e w1 ⟨rfl,m,rfl⟩
  go_wp2
  go_ret
  refine ⟨ret_val ?_,Below.x0⟩
  simp [go_sem]
 ·have hd:decide ((⟨r0,c0,xs⟩:Mat)=⟨r1,c1,ys⟩)=false:=decide_eq_false (fun e=>h (by simp only [Mat.mk.injEq] at e;exact ⟨e.1,e.2.1⟩))
  rw [hd]
  clear hd
  by_cases hr:r0=r1
  ·subst hr
   have e1:(r0 != r0)=false:=by simp
   have e2:(c0 != c1)=true:=by simp;intro e;exact h ⟨rfl,e⟩
   clear h
   go_enter Tryz.func51,Tryz.ntmps51
   go_wp2
   go_ret
   exact ⟨rfl,Below.x0⟩
  ·have e1:(r0 != r1)=true:=by simp [hr]
   clear h hr
   go_enter Tryz.func51,Tryz.ntmps51
   go_wp2
   go_ret
   exact ⟨rfl,Below.x0⟩
end Go.Proofs.YtchngeagnlngaaaGreatDoor
end
section
namespace Go.Proofs.YtchngeagnlngaaaGreatDoor
open Go.RowKit Gal
theorem matrices_sameM (ma:Mat) (va vb:Value) (w:World) (ha:MatAt w va ma) (hb:MatAt w vb ma) :
  Calls Tryz.prog 51 #[va,vb] w fun e w'=>e=.returned (.bool true)∧Below w.heap.size w w':=
 (matrices_any ma ma va vb w ha hb).mono fun _ _ ⟨h,hb⟩=>⟨by rw [h,decide_eq_true rfl],hb⟩
end Go.Proofs.YtchngeagnlngaaaGreatDoor
end
