/- Texts joined: RBatch1, RBatch2. -/
import Derived.Test.YtchngeagnlngaaaGreatDoorJ11
import Derived.Test.YtchngeagnlngaaaGreatDoorJ13
import Derived.Test.YtchngeagnlngaaaGreatDoorJ12
import Derived.Test.YtchngeagnlngaaaGreatDoorJ15
import Derived.Deep.DeepCutAuto
import Derived.Deep.RegionHeld3
set_option linter.unusedVariables false
set_option linter.unusedSimpArgs false
set_option linter.unusedSectionVars false
section
namespace Gal
def cntTo (P:Nat):Nat→Nat→Int
 | 0,_=>0
 | i+1,j=>if j=i % P then cntTo P i j+1 else cntTo P i j
theorem cnt_zero (P:Nat):upto (cntTo P 0) P=zeros P:=by rw [zeros_upto];rfl
theorem cnt_set {P i:Nat} (h:0<P):(upto (cntTo P i) P).set (i % P) (cntTo P i (i % P)+1)=upto (cntTo P (i+1)) P:=by
 rw [upto_set (Nat.mod_lt i h)]
 exact upto_congr fun q _=>by
  show (if q=i % P then _ else _)=(if q=i % P then _ else _)
  by_cases e:q=i % P
  ·rw [if_pos e,if_pos e,e]
  ·rw [if_neg e,if_neg e]
theorem cnt_bd (P:Nat):∀ i j,0≤cntTo P i j∧cntTo P i j≤i
 | 0,j=>by simp [cntTo]
 | i+1,j=>by
  have:=cnt_bd P i j
  unfold cntTo
  by_cases e:j=i % P
  ·rw [if_pos e];omega
  ·rw [if_neg e];omega
theorem cnt_all:∀ R,R<25→∀ P,P<13→1≤P→P≤R→upto (cntTo P R) P=ints (sizesOf R P):=by decide +kernel
end Gal
namespace Go.Proofs.YtchngeagnlngaaaGreatDoor
open Go.RowKit Gal
set_option maxRecDepth 100000
set_option maxHeartbeats 2000000
theorem refBatchFault_any (d:Bat) (v:Value) (w:World) (h:BatAt w v d):Calls Tryz.prog 68 #[v] w fun e w'=>e=.returned (.int .i64 d.fault)∧Below w.heap.size w w':=by
 obtain ⟨a,n,k,b,o,a',n',k',b',o',rfl,x0,x1⟩:=h
 by_cases h1:d.I.fault=0
 ·have hrn:0≤d.I.rows:=(fault_bd h1).1
  have H1:=Lib.hid h1
  by_cases h2:d.W.fault=0
  ·have H2:=Lib.hid h2
   have HF:Hid (d.fault=if d.I.rows≠d.W.rows∨d.I.rows<1 then 2 else 0):=Lib.hid (by unfold Bat.fault;rw [if_neg (by simp [h1]),if_neg (by simp [h2])])
   clear h1 h2
   rw [HF.out]
   by_cases h3:d.I.rows=d.W.rows
   ·have q3:(d.I.rows != d.W.rows)=false:=by simp [h3]
    by_cases h4:d.I.rows<1
    ·have q4:(d.I.rows == 0)=true:=by simp;omega
     rw [if_pos (Or.inr h4)]
     clear h3 h4
     go_enter Tryz.func68,Tryz.ntmps68
     go_wp2_with fail
     refine (refMatFault_any d.I _ _ (MatAt.mk (x0.alloc _))).mono ?_
     rw [H1.out]
     rintro e w1 ⟨rfl,hb1⟩
     have B1:=((show Box _ w.heap.size [.int .i64 d.I.rows,.int .i64 d.I.cols,.slice a n k,.int .i64 d.W.rows,.int .i64 d.W.cols,.slice a' n' k'] 43 from Box.x0)).keep hb1
     have B1c:=B1.cell
     have B1f:=B1.thawed
     have B1z:=B1.lt
     have B1k:=lt_add B1z
     have hkw1:Below w.heap.size w w1:=(Below.x1 hb1)
     replace x1:=x1.keep hkw1
     have hsw1:=hkw1.size
     go_wp2_with fail
     refine (refMatFault_any d.W _ _ (MatAt.mk x1)).mono ?_
     rw [H2.out]
     rintro e w2 ⟨rfl,hb2⟩
     have hkw2:Below w1.heap.size w1 w2:=(Below.x1 hb2)
     replace B1:=B1.keep hkw2
     replace B1c:=B1.cell
     replace B1f:=B1.thawed
     replace B1z:=B1.lt
     replace B1k:=lt_add B1z
     have hsw2:=hkw2.size
     go_wp2
     go_ret
     exact ⟨rfl,(Below.x2 hb2 hb1)⟩
    ·have q4:(d.I.rows == 0)=false:=by simp;omega
     rw [if_neg (by rintro (q|q);exact q h3;exact h4 q)]
     clear h3 h4
     go_enter Tryz.func68,Tryz.ntmps68
     go_wp2_with fail
     refine (refMatFault_any d.I _ _ (MatAt.mk (x0.alloc _))).mono ?_
     rw [H1.out]
     rintro e w1 ⟨rfl,hb1⟩
     have B1:=((show Box _ w.heap.size [.int .i64 d.I.rows,.int .i64 d.I.cols,.slice a n k,.int .i64 d.W.rows,.int .i64 d.W.cols,.slice a' n' k'] 43 from Box.x0)).keep hb1
     have B1c:=B1.cell
     have B1f:=B1.thawed
     have B1z:=B1.lt
     have B1k:=lt_add B1z
     have hkw1:Below w.heap.size w w1:=(Below.x1 hb1)
     replace x1:=x1.keep hkw1
     have hsw1:=hkw1.size
     go_wp2_with fail
     refine (refMatFault_any d.W _ _ (MatAt.mk x1)).mono ?_
     rw [H2.out]
     rintro e w2 ⟨rfl,hb2⟩
     have hkw2:Below w1.heap.size w1 w2:=(Below.x1 hb2)
     replace B1:=B1.keep hkw2
     replace B1c:=B1.cell
     replace B1f:=B1.thawed
     replace B1z:=B1.lt
     replace B1k:=lt_add B1z
     have hsw2:=hkw2.size
     go_wp2
     go_ret
     exact ⟨rfl,(Below.x2 hb2 hb1)⟩
   ·have q3:(d.I.rows != d.W.rows)=true:=by simp [h3]
    rw [if_pos (Or.inl h3)]
    clear h3
    go_enter Tryz.func68,Tryz.ntmps68
    go_wp2_with fail
    refine (refMatFault_any d.I _ _ (MatAt.mk (x0.alloc _))).mono ?_
    rw [H1.out]
    rintro e w1 ⟨rfl,hb1⟩
    have B1:=((show Box _ w.heap.size [.int .i64 d.I.rows,.int .i64 d.I.cols,.slice a n k,.int .i64 d.W.rows,.int .i64 d.W.cols,.slice a' n' k'] 43 from Box.x0)).keep hb1
    have B1c:=B1.cell
    have B1f:=B1.thawed
    have B1z:=B1.lt
    have B1k:=lt_add B1z
    have hkw1:Below w.heap.size w w1:=(Below.x1 hb1)
    replace x1:=x1.keep hkw1
    have hsw1:=hkw1.size
    go_wp2_with fail
    refine (refMatFault_any d.W _ _ (MatAt.mk x1)).mono ?_
    rw [H2.out]
    rintro e w2 ⟨rfl,hb2⟩
    have hkw2:Below w1.heap.size w1 w2:=(Below.x1 hb2)
    replace B1:=B1.keep hkw2
    replace B1c:=B1.cell
    replace B1f:=B1.thawed
    replace B1z:=B1.lt
    replace B1k:=lt_add B1z
    have hsw2:=hkw2.size
    go_wp2
    go_ret
    exact ⟨rfl,(Below.x2 hb2 hb1)⟩
  ·have HF:Hid (d.fault=d.W.fault):=Lib.hid (by unfold Bat.fault;rw [if_neg (by simp [h1]),if_pos h2])
   have q:(d.W.fault == 0)=false:=by simp [h2]
   clear h1 h2
   rw [HF.out]
   go_enter Tryz.func68,Tryz.ntmps68
   go_wp2_with fail
   refine (refMatFault_any d.I _ _ (MatAt.mk (x0.alloc _))).mono ?_
   rw [H1.out]
   rintro e w1 ⟨rfl,hb1⟩
   have B1:=((show Box _ w.heap.size [.int .i64 d.I.rows,.int .i64 d.I.cols,.slice a n k,.int .i64 d.W.rows,.int .i64 d.W.cols,.slice a' n' k'] 43 from Box.x0)).keep hb1
   have B1c:=B1.cell
   have B1f:=B1.thawed
   have B1z:=B1.lt
   have B1k:=lt_add B1z
   have hkw1:Below w.heap.size w w1:=(Below.x1 hb1)
   replace x1:=x1.keep hkw1
   have hsw1:=hkw1.size
   go_wp2_with fail
   refine (refMatFault_any d.W _ _ (MatAt.mk x1)).mono ?_
   rintro e w2 ⟨rfl,hb2⟩
   go_wp2
   go_ret
   exact ⟨rfl,(Below.x2 hb2 hb1)⟩
 ·have HF:Hid (d.fault=d.I.fault):=Lib.hid (by unfold Bat.fault;rw [if_pos h1])
  have q:(d.I.fault == 0)=false:=by simp [h1]
  clear h1
  rw [HF.out]
  go_enter Tryz.func68,Tryz.ntmps68
  go_wp2_with fail
  refine (refMatFault_any d.I _ _ (MatAt.mk (x0.alloc _))).mono ?_
  rintro e w1 ⟨rfl,hb1⟩
  go_wp2
  go_ret
  exact ⟨rfl,(Below.x1 hb1)⟩
theorem refSizes_bad (r p:Int) (w:World) (hf:sizesFault r p≠0) :
  Calls Tryz.prog 69 #[.int .i64 r,.int .i64 p] w fun e w'=>e=.returned (.tuple #[.slice none 0 0,.int .i64 (sizesFault r p)])∧w=w':=by
 by_cases h1:r<1∨24<r∨p<1∨12<p
 ·have h0:sizesFault r p=1:=if_pos h1
  rw [h0]
  clear hf h0
  go_enter Tryz.func69,Tryz.ntmps69
  by_cases q1:r<1
  ·go_wp2
   go_ret2
   exact ⟨rfl,rfl⟩
  ·by_cases q2:24<r
   ·go_wp2
    go_ret2
    exact ⟨rfl,rfl⟩
   ·by_cases q3:p<1
    ·go_wp2
     go_ret2
     exact ⟨rfl,rfl⟩
    ·have q4:12<p:=by omega
     go_wp2
     go_ret2
     exact ⟨rfl,rfl⟩
 ·have h2:r<p:=by
   rcases Int.lt_or_le r p with h|h
   ·exact h
   ·exact absurd (show sizesFault r p=0 by unfold sizesFault;rw [if_neg h1,if_neg (by omega)]) hf
  have h0:sizesFault r p=2:=by unfold sizesFault;rw [if_neg h1,if_pos h2]
  rw [h0]
  have q1:¬ r<1:=by omega
  have q2:¬ 24<r:=by omega
  have q3:¬ p<1:=by omega
  have q4:¬ 12<p:=by omega
  clear hf h0 h1
  go_enter Tryz.func69,Tryz.ntmps69
  go_wp2
  go_ret2
  exact ⟨rfl,rfl⟩
theorem refSizes_ok (R P:Nat) (w:World) (hR:R≤24) (hP:P≤12) (h1:1≤P) (hPR:P≤R) :
  Calls Tryz.prog 69 #[.int .i64 R,.int .i64 P] w fun e w'=>∃ b,e=.returned (.tuple #[.slice (some ⟨b,0,none⟩) P P,.int .i64 0]) ∧
   w.heap.size≤b∧Box w' b ((ints (sizesOf R P)).map (Value.int .i64)) 3∧Below w.heap.size w w':=by
 obtain ⟨i0,hi,hz0,hz1,hz2⟩:=info_parts info_int
 have hmk:=fun W=>run_make_rowN (P:=Tryz.prog) 29 3 i0 _ Tryz.underlying29 hi hz0 .i64 .i64 P P (P:Int) (P:Int) rfl rfl (Nat.le_refl _) (by rw [hz2];omega) (by omega) W
 rw [hz1,Nat.mul_one] at hmk
 have hmc:(madeCells (Value.int .i64 0).cells P)=((zeros P).map (Value.int .i64)).toArray:=by
  apply Array.toList_inj.1
  show (madeCells #[Value.int .i64 0] P).toList=_
  rw [toList_madeCells_one]
  simp [zeros]
 rw [hmc] at hmk
 clear hmc
 have HA:=Lib.hid (cnt_all R (by omega) P (by omega) h1 hPR)
 have g1:¬ (R:Int)<1:=by omega
 have g2:¬ 24<(R:Int):=by omega
 have g3:¬ (P:Int)<1:=by omega
 have g4:¬ 12<(P:Int):=by omega
 have g5:¬ (R:Int)<(P:Int):=by omega
 have hKz:((P:Int) == 0)=false:=by simp;omega
 go_enter Tryz.func69,Tryz.ntmps69
 go_wp2
 go_loopw [7] (fun i wr=>∃ t:Nat,t≤R∧i=.int .i64 t∧Box wr w.heap.size ((upto (cntTo P t) P).map (Value.int .i64)) 3∧Below w.heap.size w wr) (fun i _=>R - (intOf i).toNat)
 case atStart=>exact ⟨0,Nat.zero_le _,rfl,by rw [cnt_zero];exact Box.new _ _ _,Below.x0⟩
 case round=>
  obtain ⟨t,ht,rfl,Bc,hbr⟩:=hrel
  by_cases hlt:t<R
  ·have hm:=Nat.mod_lt t (show 0<P by omega)
   have cc:=Bc.icell (k:=t % P) (by rw [upto_length];exact hm)
   rw [upto_ix hm] at cc
   have hcb:=cnt_bd P t (t % P)
   obtain ⟨j,hj⟩:∃ j,t % P=j:=⟨_,rfl⟩
   have HJ:=Lib.hid hj
   have HS:=Lib.hid (cnt_set (P:=P) (i:=t) (by omega))
   rw [hj] at cc hm hcb
   have hmI:(t:Int) % (P:Int)=(j:Int):=by rw [← Int.natCast_emod,hj]
   have hmT:(t:Int).tmod (P:Int)=(j:Int):=by rw [Int.tmod_eq_emod_of_nonneg (by omega)];exact hmI
   have cf:=Bc.thawed j
   have hji:(j:Int)<(P:Int):=by omega
   obtain ⟨c,hc⟩:∃ c,cntTo P t j=c:=⟨_,rfl⟩
   have HC:=Lib.hid hc
   rw [hc] at cc hcb
   clear hj hc
   go_wp2
   go_roundw
   case rel=>exact ⟨t+1,by omega,by go_num,by
    have hs:=Bc.iset j (c+1)
    have h2:=HS.out
    rw [HJ.out,HC.out] at h2
    rw [h2] at hs
    exact hs,(Below.y0 hbr)⟩
   case measure=>simp [intOf];omega
  ·obtain rfl:t=R:=by omega
   rw [HA.out] at Bc
   go_wp2
   go_ret2
   exact ⟨_,rfl,Nat.le_refl _,Bc,hbr⟩
end Go.Proofs.YtchngeagnlngaaaGreatDoor
end
section
namespace Gal
open Go Go.RowKit
section
variable {w:World} {b c q:Nat} {t u:TypeId} {v0 v1 v2 v3 v4 v5:Value} {xs:List Int} {x:Int}
theorem cellsS0 (h:Box w b [v0,v1,v2,v3,v4,v5] t) (k:Box w c (xs.map (Value.int .i64)) u) (hq:q<xs.length) (hx:ix xs q=x):w.cell? ⟨b,0,none⟩=some v0∧w.cell? ⟨b,1,none⟩=some v1∧w.cell? ⟨b,2,none⟩=some v2∧w.cell? ⟨c,q,none⟩=some (.int .i64 x):=
 ⟨h.cell 0,h.cell 1,h.cell 2,by rw [← hx];exact k.icell hq⟩
theorem cellsS3 (h:Box w b [v0,v1,v2,v3,v4,v5] t) (k:Box w c (xs.map (Value.int .i64)) u) (hq:q<xs.length) (hx:ix xs q=x):w.cell? ⟨b,3,none⟩=some v3∧w.cell? ⟨b,4,none⟩=some v4∧w.cell? ⟨b,5,none⟩=some v5∧w.cell? ⟨c,q,none⟩=some (.int .i64 x):=
 ⟨h.cell 3,h.cell 4,h.cell 5,by rw [← hx];exact k.icell hq⟩
end
end Gal
namespace Go.Proofs.YtchngeagnlngaaaGreatDoor
open Go.RowKit Gal
set_option maxRecDepth 100000
set_option maxHeartbeats 4000000
theorem refSplit_any (d:Bat) (p:Int) (v:Value) (w:World) (h:BatAt w v d) :
  Calls Tryz.prog 41 #[v,.int .i64 p] w fun e w'=>∃ u,e=.returned (.tuple #[u,.int .i64 (splitFault d p)])∧Below w.heap.size w w' ∧
   (splitFault d p=0→∃ a k b,u=.slice a p.toNat k∧RowAt Form.bat w' (newB w.heap.size) a p.toNat k b 0 (partsTo d (sizesOf d.I.rows.toNat p.toNat) p.toNat))∧(splitFault d p≠0→u=.slice none 0 0):=by
 obtain ⟨i0,hi,hz0,hz1,hz2⟩:=info_parts info_bat
 obtain ⟨a,n,k,b,o,a',n',k',b',o',rfl,x0,x1⟩:=h
 by_cases hd:d.fault=0
 ·have HD:=Lib.hid hd
  have HF:Hid (splitFault d p=sizesFault d.I.rows p):=Lib.hid (by unfold splitFault;rw [if_neg (by simp [hd])])
  rw [HF.out]
  by_cases hs:sizesFault d.I.rows p=0
  ·obtain ⟨f1,f2,f3,f4⟩:=Bat.fault_ok hd
   obtain ⟨g1,g2,g3,g4,g5⟩:=sizesFault_ok hs
   obtain ⟨R,hR⟩:=Int.eq_ofNat_of_zero_le (show 0≤d.I.rows by omega)
   obtain ⟨P,rfl⟩:=Int.eq_ofNat_of_zero_le (show 0≤p by omega)
   rw [hR] at g1 g2 g5
   have hRn:d.I.rows.toNat=R:=by rw [hR];simp
   rw [hRn]
   simp only [Int.toNat_natCast]
   obtain ⟨s,hsz⟩:∃ s,sizesOf R P=s:=⟨_,rfl⟩
   have hsl:s.length=P:=by rw [← hsz];exact sizesOf_length P R
   have hss:s.sum=R:=by rw [← hsz];exact sizesOf_sum P R (by omega)
   have PI:Hid (∀ k,rowsFault d.I (atOf s k) (atOf s (k+1))=0):=Lib.hid fun k=>part_fault f1 (by rw [hss,hR])
   have PW:Hid (∀ k,rowsFault d.W (atOf s k) (atOf s (k+1))=0):=Lib.hid fun k=>part_fault f2 (by rw [hss,← f3,hR])
   have HLE:Hid (∀ k,atOf s k≤24):=Lib.hid fun k=>by have:=atOf_le s k;omega
   rw [hsz]
   have HS0:=Lib.hid hs
   have HSL:=Lib.hid hsl
   have HBS:Hid (∀ W,Calls Tryz.prog 69 #[.int .i64 d.I.rows,.int .i64 P] W fun e w'=>∃ b,e=.returned (.tuple #[.slice (some ⟨b,0,none⟩) P P,.int .i64 0])∧W.heap.size≤b∧Box w' b ((ints s).map (Value.int .i64)) 3∧Below W.heap.size W w'):=Lib.hid fun W=>by
    have:=refSizes_ok R P W (by omega) (by omega) (by omega) (by omega)
    rw [hsz,← hR] at this
    exact this
   clear hd hs f1 f2 f3 f4 hsz hsl hss hR hRn
   go_enter Tryz.func41,Tryz.ntmps41
   go_wp2_with fail
   refine (refBatchFault_any d _ _ ⟨_,_,_,_,_,_,_,_,_,_,rfl,x0.alloc _,x1.alloc _⟩).mono ?_
   rw [HD.out]
   rintro e w1 ⟨rfl,hb1⟩
   have B2:=((show Box _ w.heap.size [.int .i64 d.I.rows,.int .i64 d.I.cols,.slice a n k,.int .i64 d.W.rows,.int .i64 d.W.cols,.slice a' n' k'] 43 from Box.x0)).keep hb1
   have B2c:=B2.cell
   have B2f:=B2.thawed
   have B2z:=B2.lt
   have B2k:=lt_add B2z
   have hkw1:Below w.heap.size w w1:=(Below.x1 hb1)
   replace x0:=x0.keep hkw1
   replace x1:=x1.keep hkw1
   have hsw1:=hkw1.size
   go_wp2_with fail
   refine (HBS.out _).mono ?_
   rintro e w2 ⟨bs,rfl,hbs,BS,hb2⟩
   have hkw2:Below w1.heap.size w1 w2:=(Below.x1 hb2)
   replace B2:=B2.keep hkw2
   replace B2c:=B2.cell
   replace B2f:=B2.thawed
   replace B2z:=B2.lt
   replace B2k:=lt_add B2z
   replace x0:=x0.keep hkw2
   replace x1:=x1.keep hkw2
   have hsw2:=hkw2.size
   have hbw2:Below w.heap.size w w2:=(Below.x2 hb2 hb1)
   have hz1':w.heap.size+1≤w2.heap.size:=by have:=B2z;omega
   have hbs2:bs<w2.heap.size:=BS.lt
   go_wp2
   go_loopw [8,9,10] (fun u t j wr=>∃ q:Nat,q≤P∧j=.int .i64 q∧t=.int .i64 (atOf s q)∧OwnRow Form.bat 43 wr w2.heap.size (newB (w.heap.size+1)) u (partsTo d s q)∧Below w2.heap.size w2 wr) (fun _ _ j _=>P - (intOf j).toNat)
   case atStart=>exact ⟨0,Nat.zero_le _,rfl,rfl,OwnRow.nil _ _ _ _ _,Below.refl _ _⟩
   case round=>
    obtain ⟨q,hq,rfl,rfl,hown,hbr⟩:=hrel
    have hkwr:Below w2.heap.size w2 wr:=(Below.x1 hbr)
    replace B2:=B2.keep hkwr
    replace B2c:=B2.cell
    replace B2f:=B2.thawed
    replace B2z:=B2.lt
    replace B2k:=lt_add B2z
    replace x0:=x0.keep hkwr
    replace x1:=x1.keep hkwr
    replace BS:=BS.keep hkwr
    obtain ⟨av,cv,hv⟩:=hown.slice
    rw [partsTo_length] at hv
    subst hv
    have HL:=Lib.hid (partsTo_length d s q)
    by_cases hlt:q<P
    ·have hle:=HLE.out q
     have hle1:=HLE.out (q+1)
     have hql:q<(ints s).length:=by rw [ints_length,HSL.out];exact hlt
     have HXQ:Hid (ix (ints s) q=(nx s q:Int)):=Lib.hid (by unfold ix ints nx;rw [List.getElem?_map,List.getElem?_eq_getElem (by rw [HSL.out];exact hlt)];rfl)
     have hat:(atOf s q:Int)+(nx s q:Int)=(atOf s (q+1):Int):=by show _=((atOf s q+nx s q:Nat):Int);omega
     have hw1:IntKind.i64.wrap ((atOf s q:Int)+(nx s q:Int))=(atOf s (q+1):Int):=by rw [hat];exact IntWalk.i64_in _ (by omega)
     have hi2:(q:Int)<(P:Int):=by omega
     have hi3:(0:Int)≤(q:Int):=by omega
     clear hat
     have hzw:w2.heap.size≤wr.heap.size:=hbr.size
     have hb2z:w.heap.size<wr.heap.size:=B2z
     have hbsz:bs<wr.heap.size:=BS.lt
     have l0:0<n→b<wr.heap.size:=x0.lt
     have l1:0<n'→b'<wr.heap.size:=x1.lt
     have hrowq:∀ r,(Value.slice av q cv).ownBlock=some r→w2.heap.size≤r∧r<wr.heap.size:=fun r hr=>hown.base_le r hr
     go_wp2_with fail
     go_cut [11] (fun s1 wx=>∃ p a5 n5 k5 b5 o5,s1=.pointer (some ⟨p,0,none⟩)∧Box wx p [.int .i64 (matRows d.I (atOf s q) (atOf s (q+1))).rows,.int .i64 (matRows d.I (atOf s q) (atOf s (q+1))).cols,.slice a5 n5 k5] 41∧IntsAt wx a5 n5 k5 b5 o5 (matRows d.I (atOf s q) (atOf s (q+1))).cells∧(0<n5→wr.heap.size≤b5)∧Below wr.heap.size wr wx)
     case first=>
      go_region_held3 (fun w'=>w'.cell? ⟨w.heap.size,0,none⟩=some (.int .i64 d.I.rows)∧w'.cell? ⟨w.heap.size,1,none⟩=some (.int .i64 d.I.cols)∧w'.cell? ⟨w.heap.size,2,none⟩=some (.slice a n k)∧w'.cell? ⟨bs,q,none⟩=some (.int .i64 (nx s q))) (exact cellsS0 (t:=43) (u:=3) (xs:=ints s) (v3:=.int .i64 d.W.rows) (v4:=.int .i64 d.W.cols) (v5:=.slice a' n' k') (by first|exact B2.k1 hb5|exact B2.k) (by first|exact BS.k1 hb5|exact BS.k) hql HXQ.out) ((go_at_call 70;go_must (refine (refMatRows_all d.I (atOf s q) (atOf s (q+1)) _ _ (MatAt.mk (show IntsAt _ a n k b o d.I.cells from x0.k)) (PI.out q)).mono ?_);go_must (rintro e w5 ⟨v5,rfl,⟨a5,n5,k5,b5,o5,rfl,hn5,x5⟩,hb5⟩);(try (refine (fun (P1:Box w5 (wr.heap.size) [.int .i64 0,.int .i64 0,.slice none 0 0] 41)=>?_) ?_;rotate_left 1;(with_reducible refine Box.keep ?_ hb5);(focus ((repeat (first|(with_reducible refine (Box.new' _ (wr.heap.size) _ _ ?_);(simp;done))|(with_reducible refine Box.alloc ?_ _)|(with_reducible refine Box.drew ?_)|(with_reducible refine Box.drewN ?_ _)));done));have P1c:=P1.cell;have P1f:=P1.thawed;have P1z:=P1.lt))))
      all_goals (
       go_wp2_with fail
       go_meet
       simp at hn5
       exact ⟨_,a5,n5,k5,b5,o5,rfl,(by repeat (first|(with_reducible first|(refine (Box.new' _ _ _ _ ?_);(simp;done))|refine Box.alloc ?_ _|refine Box.drewN ?_ _|refine Box.drew ?_|refine Box.set6z ?_ _ _ _ _ _ _|refine Box.set3z ?_ _ _ _|refine Box.fx ?_ _|refine Box.keep ?_ hb5))),(by repeat (first|(with_reducible first|exact x5|refine IntsAt.alloc ?_ _|refine IntsAt.drewN ?_ _|refine IntsAt.drew ?_|(refine IntsAt.set ?_ ?_ _;rotate_left 1;(intro h0;have hq0:=hn5 h0;first|(dsimp only;omega)|omega|(simp;omega)|simp)))|exact x5)),fun h=>by have:=hn5 h;omega,(Below.x1 hb5)⟩)
     case rest=>
     obtain ⟨p5,a5,n5,k5,b5,o5,rfl,Q5,x5,l5,hc5⟩:=hcut
     have hbwA:Below w2.heap.size w2 wc:=(Below.y1 hc5 hbr)
     have hkwc:Below wr.heap.size wr wc:=(Below.x1 hc5)
     replace B2:=B2.keep hkwc
     replace B2c:=B2.cell
     replace B2f:=B2.thawed
     replace B2z:=B2.lt
     replace B2k:=lt_add B2z
     replace x1:=x1.keep hkwc
     replace BS:=BS.keep hkwc
     replace hown:=hown.keep hc5
     have Q5:=Q5
     have Q5c:=Q5.cell
     have Q5f:=Q5.thawed
     have Q5z:=Q5.lt
     have Q5k:=lt_add Q5z
     have hbsz2:bs<wc.heap.size:=BS.lt
     have lw1:0<n'→b'<wc.heap.size:=x1.lt
     have l5':=x5.lt
     have hzc:wr.heap.size≤wc.heap.size:=hc5.size
     obtain ⟨wA,hwA,B2A,BSA,x1A,x5A,Q5A,hownA,hbA⟩:∃ wA,wA=wc∧Box wA w.heap.size [.int .i64 d.I.rows,.int .i64 d.I.cols,.slice a n k,.int .i64 d.W.rows,.int .i64 d.W.cols,.slice a' n' k'] 43∧Box wA bs ((ints s).map (Value.int .i64)) 3∧IntsAt wA a' n' k' b' o' d.W.cells∧IntsAt wA a5 n5 k5 b5 o5 (matRows d.I (atOf s q) (atOf s (q+1))).cells∧Box wA p5 [.int .i64 (matRows d.I (atOf s q) (atOf s (q+1))).rows,.int .i64 (matRows d.I (atOf s q) (atOf s (q+1))).cols,.slice a5 n5 k5] 41∧OwnRow Form.bat 43 wA w2.heap.size (newB (w.heap.size+1)) (.slice av q cv) (partsTo d s q)∧Below w2.heap.size w2 wA:=⟨wc,rfl,B2,BS,x1,x5,Q5,hown,hbwA⟩
     rw [← hwA]
     have hzA:wr.heap.size≤wA.heap.size:=by rw [hwA];exact hzc
     have hb2A:w.heap.size<wA.heap.size:=B2A.lt
     have hbsA:bs<wA.heap.size:=BSA.lt
     have hp5A:p5<wA.heap.size:=Q5A.lt
     have lwA:0<n'→b'<wA.heap.size:=x1A.lt
     have l5A:0<n5→b5<wA.heap.size:=x5A.lt
     clear hwA B2 B2c B2f B2z B2k BS x0 x1 x5 Q5 Q5c Q5f Q5z Q5k hown hbwA hc5 hzc lw1 l5' hbsz2
     have B2:=B2A
     have B2c:=B2.cell
     have B2f:=B2.thawed
     have B2z:=B2.lt
     have B2k:=lt_add B2z
     have Q5:=Q5A
     have Q5c:=Q5.cell
     have Q5f:=Q5.thawed
     have Q5z:=Q5.lt
     have Q5k:=lt_add Q5z
     have BS:=BSA
     have x1:=x1A
     go_wp2_with fail
     go_cut [12] (fun s1 wx=>∃ p a6 n6 k6 b6 o6,s1=.pointer (some ⟨p,0,none⟩)∧Box wx p [.int .i64 (matRows d.W (atOf s q) (atOf s (q+1))).rows,.int .i64 (matRows d.W (atOf s q) (atOf s (q+1))).cols,.slice a6 n6 k6] 41∧IntsAt wx a6 n6 k6 b6 o6 (matRows d.W (atOf s q) (atOf s (q+1))).cells∧(0<n6→wA.heap.size≤b6)∧Below wA.heap.size wA wx)
     case first=>
      go_region_held3 (fun w'=>w'.cell? ⟨w.heap.size,3,none⟩=some (.int .i64 d.W.rows)∧w'.cell? ⟨w.heap.size,4,none⟩=some (.int .i64 d.W.cols)∧w'.cell? ⟨w.heap.size,5,none⟩=some (.slice a' n' k')∧w'.cell? ⟨bs,q,none⟩=some (.int .i64 (nx s q))) (exact cellsS3 (t:=43) (u:=3) (xs:=ints s) (v0:=.int .i64 d.I.rows) (v1:=.int .i64 d.I.cols) (v2:=.slice a n k) (by first|exact B2.k1 hb6|exact B2.k) (by first|exact BS.k1 hb6|exact BS.k) hql HXQ.out) ((go_at_call 70;go_must (refine (refMatRows_all d.W (atOf s q) (atOf s (q+1)) _ _ (MatAt.mk (show IntsAt _ a' n' k' b' o' d.W.cells from x1.k)) (PW.out q)).mono ?_);go_must (rintro e w6 ⟨v6,rfl,⟨a6,n6,k6,b6,o6,rfl,hn6,x6⟩,hb6⟩);(try (refine (fun (P1:Box w6 (wA.heap.size) [.int .i64 0,.int .i64 0,.slice none 0 0] 41)=>?_) ?_;rotate_left 1;(with_reducible refine Box.keep ?_ hb6);(focus ((repeat (first|(with_reducible refine (Box.new' _ (wA.heap.size) _ _ ?_);(simp;done))|(with_reducible refine Box.alloc ?_ _)|(with_reducible refine Box.drew ?_)|(with_reducible refine Box.drewN ?_ _)));done));have P1c:=P1.cell;have P1f:=P1.thawed;have P1z:=P1.lt))))
      all_goals (
       go_wp2_with fail
       go_meet
       simp at hn6
       exact ⟨_,a6,n6,k6,b6,o6,rfl,(by repeat (first|(with_reducible first|(refine (Box.new' _ _ _ _ ?_);(simp;done))|refine Box.alloc ?_ _|refine Box.drewN ?_ _|refine Box.drew ?_|refine Box.set6z ?_ _ _ _ _ _ _|refine Box.set3z ?_ _ _ _|refine Box.fx ?_ _|refine Box.keep ?_ hb6))),(by repeat (first|(with_reducible first|exact x6|refine IntsAt.alloc ?_ _|refine IntsAt.drewN ?_ _|refine IntsAt.drew ?_|(refine IntsAt.set ?_ ?_ _;rotate_left 1;(intro h0;have hq0:=hn6 h0;first|(dsimp only;omega)|omega|(simp;omega)|simp)))|exact x6)),fun h=>by have:=hn6 h;omega,(Below.x1 hb6)⟩)
     case rest=>
     obtain ⟨p6,a6,n6,k6,b6,o6,rfl,Q6,x6,l6,hc6⟩:=hcut
     have hkwc:Below wA.heap.size wA wc:=(Below.x1 hc6)
     replace Q5:=Q5.keep hkwc
     replace Q5c:=Q5.cell
     replace Q5f:=Q5.thawed
     replace Q5z:=Q5.lt
     replace Q5k:=lt_add Q5z
     replace x5A:=x5A.keep hkwc
     replace BS:=BS.keep hkwc
     replace hownA:=hownA.keep hc6
     have Q6:=Q6
     have Q6c:=Q6.cell
     have Q6f:=Q6.thawed
     have Q6z:=Q6.lt
     have Q6k:=lt_add Q6z
     have hbwC:Below w2.heap.size w2 wc:=(Below.y1 hc6 hbA)
     have hcs:=BS.icell hql
     rw [HXQ.out] at hcs
     have hzC:wA.heap.size≤wc.heap.size:=hc6.size
     clear B2 B2c B2f B2z B2k x1 hw1
     have hw1:IntKind.i64.wrap ((atOf s q:Int)+(nx s q:Int))=(atOf s (q+1):Int):=by rw [show (atOf s q:Int)+(nx s q:Int)=(atOf s (q+1):Int) by show _=((atOf s q+nx s q:Nat):Int);omega];exact IntWalk.i64_in _ (by omega)
     go_wp2_with (at_builtin;refine wpList_push rfl (.tmp 54) (.tmp 58) 26 rfl Form.bat w2.heap.size (newB (w.heap.size+1)) 43 i0 (.agg #[.int .i64 0,.int .i64 0,.slice none 0 0,.int .i64 0,.int .i64 0,.slice none 0 0]) 80 Tryz.underlying26 hi hz0 hz1 hz2 rfl (by decide) (.slice av q cv) (partsTo d s q) rfl (hownA.keep ((Below.refl wc.heap.size wc).alloc (Nat.le_refl _) _)) wc.heap.size 1 [.int .i64 (matRows d.I (atOf s q) (atOf s (q+1))).rows,.int .i64 (matRows d.I (atOf s q) (atOf s (q+1))).cols,.slice a5 n5 k5,.int .i64 (matRows d.W (atOf s q) (atOf s (q+1))).rows,.int .i64 (matRows d.W (atOf s q) (atOf s (q+1))).cols,.slice a6 n6 k6] 43 (partOf d s q) rfl (Box.new _ _ _) (reads_bat (d:=partOf d s q) (fun h=>⟨by have:=l5 h;unfold newB;omega,fun e=>by have:=(hrowq _ e).2;have:=l5 h;omega⟩) (x5A.alloc _) (fun h=>⟨by have:=l6 h;unfold newB;omega,fun e=>by have:=(hrowq _ e).2;have:=l6 h;omega⟩) (x6.alloc _)) (by rw [HL.out];omega) (by rw [HL.out];unfold maxLen;omega) (by have:=hbwC.size;simp;omega) _ rfl ?_)
     intro g cap w' hown7 hgrow hgv hgl
     have hbn:Below w2.heap.size w2 w':=Below.grown (Below.al hbwC _) hgrow (by have:=hbwC.size;simp;omega) (fun r hr=>(hrowq r hr).1)
     have hcn:w'.cell? ⟨bs,q,none⟩=some (.int .i64 (nx s q)):=by
      have B7:=(BS.alloc (.cells #[.int .i64 (matRows d.I (atOf s q) (atOf s (q+1))).rows,.int .i64 (matRows d.I (atOf s q) (atOf s (q+1))).cols,.slice a5 n5 k5,.int .i64 (matRows d.W (atOf s q) (atOf s (q+1))).rows,.int .i64 (matRows d.W (atOf s q) (atOf s (q+1))).cols,.slice a6 n6 k6] 43)).grown hgrow (fun e=>by have:=(hrowq _ e.symm).1;omega)
      have:=B7.icell hql
      rw [HXQ.out] at this
      exact this
     go_wp2
     go_roundw
     case rel=>exact ⟨q+1,by omega,by go_num,rfl,by rw [partsTo_succ];exact hown7,hbn⟩
     case measure=>simp [intOf];omega
    ·obtain rfl:q=P:=by omega
     have hbe:Below w.heap.size w wr:=(Below.y1 hbr hbw2)
     obtain ⟨av',cv',bb,hv,hbb,hrow⟩:=hown.row (G:=newB w.heap.size) (fun c hc _=>by unfold newB at *;omega) (fun c hc=>by unfold newB;omega)
     rw [partsTo_length] at hv hbb hrow
     have HR:=Lib.hid (show ∃ a k b,Value.slice av q cv=.slice a q k∧RowAt Form.bat wr (newB w.heap.size) a q k b 0 (partsTo d s q) from ⟨_,_,_,hv,hrow⟩)
     clear hv hown hrow B2 B2c B2f B2z B2k x0 x1 BS
     go_wp2
     refine bodyPost_ret (v:=.tuple #[.slice av q cv,.int .i64 0]) (by simp [results,Tryz.results41,go_sem]) rfl ⟨.slice av q cv,?_,hbe,?_,?_⟩
     ·rw [HS0.out]
     ·exact fun _=>HR.out
     ·exact fun h=>absurd HS0.out h
  ·have HN:=Lib.hid hs
   have q1:(sizesFault d.I.rows p != 0)=true:=by simp [hs]
   clear hs hd
   go_enter Tryz.func41,Tryz.ntmps41
   go_wp2_with fail
   refine (refBatchFault_any d _ _ ⟨_,_,_,_,_,_,_,_,_,_,rfl,x0.alloc _,x1.alloc _⟩).mono ?_
   rw [HD.out]
   rintro e w1 ⟨rfl,hb1⟩
   have B2:=((show Box _ w.heap.size [.int .i64 d.I.rows,.int .i64 d.I.cols,.slice a n k,.int .i64 d.W.rows,.int .i64 d.W.cols,.slice a' n' k'] 43 from Box.x0)).keep hb1
   have B2c:=B2.cell
   have B2f:=B2.thawed
   have B2z:=B2.lt
   have B2k:=lt_add B2z
   go_wp2_with fail
   refine (refSizes_bad d.I.rows p _ HN.out).mono ?_
   rintro e w' ⟨rfl,rfl⟩
   go_wp2
   refine bodyPost_ret (v:=.tuple #[.slice none 0 0,.int .i64 (sizesFault d.I.rows p)]) (by simp [results,Tryz.results41,go_sem]) rfl ⟨.slice none 0 0,?_,(Below.x1 hb1),?_,?_⟩
   ·rfl
   ·exact fun h=>absurd h HN.out
   ·exact fun _=>rfl
 ·have HF:Hid (splitFault d p=d.fault):=Lib.hid (by unfold splitFault;rw [if_pos hd])
  have HN:=Lib.hid hd
  have q1:(d.fault != 0)=true:=by simp [hd]
  rw [HF.out]
  clear hd
  go_enter Tryz.func41,Tryz.ntmps41
  go_wp2_with fail
  refine (refBatchFault_any d _ _ ⟨_,_,_,_,_,_,_,_,_,_,rfl,x0.alloc _,x1.alloc _⟩).mono ?_
  rintro e w1 ⟨rfl,hb1⟩
  go_wp2
  refine bodyPost_ret (v:=.tuple #[.slice none 0 0,.int .i64 d.fault]) (by simp [results,Tryz.results41,go_sem]) rfl ⟨.slice none 0 0,?_,(Below.x1 hb1),?_,?_⟩
  ·rfl
  ·exact fun h=>absurd h HN.out
  ·exact fun _=>rfl
end Go.Proofs.YtchngeagnlngaaaGreatDoor
end
