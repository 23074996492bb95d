/- Texts joined: PTrain1, PBatch, PBat, PTrain2, PAll. -/
import Derived.Test.YtchngeagnlngaaaGreatDoorJ02
import Derived.Test.YtchngeagnlngaaaGreatDoorJ01
set_option linter.unusedVariables false
set_option linter.unusedSimpArgs false
section
namespace Gal
theorem wideTo_less {n:List Lay} {i:Int} {k j:Nat} (hk:k≤j) (h:wideTo n i j=0):wideTo n i k=0:=Classical.byContradiction fun hne=>hne ((wideTo_stop hk hne).symm.trans h)
theorem go_wide {n:List Lay} {x:Mat} (hx:x.fault=0):∀ {k:Nat},wideTo n x.cols k=0→goTo n x k=0∧(netTo n x k).cols=netW n x.cols k∧(netTo n x k).rows=x.rows
 | 0,_=>⟨rfl,rfl,rfl⟩
 | k+1,h=>by
  have h0:=wideTo_less (Nat.le_succ k) h
  obtain ⟨h1,h2,h3⟩:=go_wide hx h0
  rw [wideTo_succ h0] at h
  have hf:(lx n k).goFault (netTo n x k)=0:=by rw [Lay.goFault_wide (netTo_fault hx h1),h2];exact h
  refine ⟨by rw [goTo_succ h1];exact hf,?_,?_⟩
  ·show ((lx n k).go (netTo n x k)).cols=(lx n k).wide (netW n x.cols k)
   rw [go_cols,h2]
  ·show ((lx n k).go (netTo n x k)).rows=x.rows
   rw [go_rows',h3]
theorem backFault_zero {l:Lay} {x g:Mat} (h1:l.goFault x=0) (h2:g.fault=0) (h3:g.rows=x.rows) (h4:g.cols=l.wide x.cols) (h5:x.rows≤12):l.backFault x g=0:=by
 unfold Lay.backFault
 rw [if_neg (by simp [h1]),if_neg (by simp [h2]),if_neg (by simp [h3,h4]),if_neg (by omega)]
section
variable {ls:List Lay} {x g:Mat}
theorem backs_ok (hgo:goTo ls x ls.length=0) (hg:g.fault=0) (hr:g.rows=x.rows) (hc:g.cols=(netTo ls x ls.length).cols) (h12:x.rows≤12) (hrow:∀ k,k≤ls.length→(netTo ls x k).rows=x.rows) :
  ∀ t,t≤ls.length→bF ls (netOuts ls x ls.length) g ls.length t=0∧(bM ls (netOuts ls x ls.length) g ls.length t).fault=0∧(bM ls (netOuts ls x ls.length) g ls.length t).rows=x.rows∧(bM ls (netOuts ls x ls.length) g ls.length t).cols=(netTo ls x (ls.length - t)).cols ∧
   (∀ s,s<t→(lx ls (ls.length - 1 - s)).backFault (mx (netOuts ls x ls.length) (ls.length - 1 - s)) (bM ls (netOuts ls x ls.length) g ls.length s)=0)
 | 0,_=>⟨rfl,hg,hr,hc,fun s hs=>absurd hs (Nat.not_lt_zero _)⟩
 | t+1,ht=>by
  obtain ⟨h1,h2,h3,h4,h5⟩:=backs_ok hgo hg hr hc h12 hrow t (by omega)
  have hX:mx (netOuts ls x ls.length) (ls.length - 1 - t)=netTo ls x (ls.length - 1 - t):=outs_mx (by omega)
  have hgf:(lx ls (ls.length - 1 - t)).goFault (netTo ls x (ls.length - 1 - t))=0:=by
   have h6:=goTo_less (show ls.length - 1 - t+1≤ls.length by omega) hgo
   rwa [goTo_succ (goTo_less (Nat.le_succ _) h6)] at h6
  have hb:(lx ls (ls.length - 1 - t)).backFault (mx (netOuts ls x ls.length) (ls.length - 1 - t)) (bM ls (netOuts ls x ls.length) g ls.length t)=0:=by
   rw [hX]
   refine backFault_zero hgf h2 ?_ ?_ (by rw [hrow _ (by omega)];exact h12)
   ·rw [h3,hrow _ (by omega)]
   ·rw [h4,← go_cols,show ls.length - t=ls.length - 1 - t+1 by omega]
    rfl
  obtain ⟨h6,h7,h8⟩:=back_fault hb
  refine ⟨by rw [bF_next h1];exact hb,h6,?_,?_,fun s hs=>?_⟩
  ·refine h7.trans ?_
   rw [hX]
   exact hrow _ (by omega)
  ·refine h8.trans ?_
   rw [hX,show ls.length - (t+1)=ls.length - 1 - t by omega]
  ·rcases Nat.lt_or_ge s t with h9|h9
   ·exact h5 s h9
   ·obtain rfl:s=t:=by omega
    exact hb
end
theorem none_fault:Mat.none.fault=0:=by decide
theorem sums_fault {R K:Nat} {xs:List Int} (hK:K≤12):(matSums ⟨R,K,xs⟩).fault=0:=
 matFault_zero (R:=1) (C:=K) (by omega) hK (grid_length _ _ _) (grid_inEnds fun i j _ _=>sumTo_clamp _ _)
def gradFits (l:Lay) (d:Grd):Prop:=d.W.fault=0∧d.B.fault=0∧likeShape d.W l.W∧likeShape d.B l.B
theorem grad_ok {l:Lay} {x g:Mat} (h:l.backFault x g=0):gradFits l (l.grad x g):=by
 obtain ⟨h1,h2,h3,h4,h5⟩:=Lay.backFault_ok h
 obtain ⟨g1,g2,g3⟩:=Lay.goFault_ok h1
 obtain ⟨k1,k2,k3,k4,k5⟩:=Lay.fault_ok g1
 obtain ⟨R,K,xs,rfl,hR,hK,hl,he⟩:=mat_form g2
 obtain ⟨R',C,gs,rfl,hR',hC,hl',he'⟩:=mat_form h2
 dsimp only at h3 h4 h5 g3
 unfold gradFits Lay.grad likeShape
 rcases k5 with ⟨e,a1,a2,a3,a4,a5⟩|⟨e,⟨a1,a2⟩,⟨a3,a4⟩⟩|⟨e,a1,a2,⟨a3,a4⟩⟩|⟨e,⟨a1,a2⟩,a3,a4⟩
 ·rw [if_pos e]
  have hc:(C:Int)=l.W.cols:=by rw [h4];unfold Lay.wide;rw [if_pos e]
  have hk:(K:Int)=l.W.rows:=g3.1 e
  have hr:R≤12:=by have:=h5 e;omega
  obtain rfl:R'=R:=by omega
  refine ⟨?_,sums_fault hC,⟨?_,?_⟩,?_,?_⟩
  ·show (matMul ⟨(K:Int),(R':Int),(matTurn ⟨R',K,xs⟩).cells⟩ ⟨R',C,gs⟩).fault=0
   exact matMul_fault (by omega) hC
  ·show (K:Int)=_
   exact hk
  ·show (C:Int)=_
   exact hc
  ·show (1:Int)=_
   exact a4.symm
  ·show (C:Int)=_
   rw [a5];exact hc
 ·rw [if_neg (by omega),if_pos e]
  exact ⟨none_fault,none_fault,⟨a1.symm,a2.symm⟩,⟨a3.symm,a4.symm⟩⟩
 ·rw [if_neg (by omega),if_neg (by omega),if_pos e]
  refine ⟨?_,none_fault,⟨a1.symm,a2.symm⟩,⟨a3.symm,a4.symm⟩⟩
  exact matFault_zero (R:=1) (C:=1) (by omega) (by omega) rfl (fun j hj=>by
   obtain rfl:j=0:=by simp at hj;omega
   exact sumTo_clamp _ _)
 ·rw [if_neg (by omega),if_neg (by omega),if_neg (by omega)]
  have hc:(C:Int)=(K:Int):=by rw [h4];unfold Lay.wide;rw [if_neg (by omega)]
  have hk:(K:Int)=l.B.cols:=g3.2 e
  refine ⟨none_fault,sums_fault hC,⟨a1.symm,a2.symm⟩,?_,?_⟩
  ·show (1:Int)=_
   exact a3.symm
  ·show (C:Int)=_
   rw [hc];exact hk
def listFits (ls:List Lay) (ds:List Grd):Prop:=ds.length=ls.length∧∀ k,k<ls.length→gradFits (lx ls k) (gx ds k)
theorem bDs_fits {ls:List Lay} {x g:Mat} (hgo:goTo ls x ls.length=0) (hg:g.fault=0) (hr:g.rows=x.rows) (hc:g.cols=(netTo ls x ls.length).cols) (h12:x.rows≤12) (hrow:∀ k,k≤ls.length→(netTo ls x k).rows=x.rows) :
  listFits ls (bDs ls (netOuts ls x ls.length) g ls.length):=by
 obtain ⟨_,_,_,_,h5⟩:=backs_ok hgo hg hr hc h12 hrow ls.length (Nat.le_refl _)
 refine ⟨bDs_length,fun k hk=>?_⟩
 rw [bDs_gx hk]
 have h6:=h5 (ls.length - 1 - k) (by omega)
 have h7:=grad_ok h6
 have e:ls.length - 1 - (ls.length - 1 - k)=k:=by omega
 unfold bD
 rw [e] at h7 ⊢
 exact h7
theorem zeros_fit {ls:List Lay} (h:∀ k,k<ls.length→(lx ls k).fault=0):listFits ls (zeroNet ls):=by
 refine ⟨zeroNet_length ls,fun k hk=>?_⟩
 rw [zeroNet_gx]
 obtain ⟨_,_,h3,h4,_⟩:=Lay.fault_ok (h k hk)
 exact ⟨zeroMat_fault h3,zeroMat_fault h4,⟨rfl,rfl⟩,⟨rfl,rfl⟩⟩
theorem matAdd_fault {a b:Mat} (ha:a.fault=0):(matAdd a b).fault=0:=by
 obtain ⟨R,K,xs,rfl,hR,hK,hl,_⟩:=mat_form ha
 exact matFault_zero (R:=R) (C:=K) hR hK ((upto_length _ _).trans hl) (inEnds_upto fun k _=>add_clamp _ _)
theorem gather_fits {ls:List Lay} {as' bs:List Grd} (ha:listFits ls as') (hb:listFits ls bs):gatherFault as' bs=0∧listFits ls (gatherTo as' bs as'.length):=by
 obtain ⟨la,fa⟩:=ha
 obtain ⟨lb,fb⟩:=hb
 have hp:∀ k,k<ls.length→pairFault (gx as' k) (gx bs k)=0:=fun k hk=>by
  obtain ⟨a1,a2,a3,a4⟩:=fa k hk
  obtain ⟨b1,b2,b3,b4⟩:=fb k hk
  have h1:=lossFault_zero a1 b1 (a3.1.trans b3.1.symm) (a3.2.trans b3.2.symm)
  rw [pairFault_b h1]
  exact lossFault_zero a2 b2 (a4.1.trans b4.1.symm) (a4.2.trans b4.2.symm)
 refine ⟨?_,by rw [gatherTo_length,la],fun k hk=>?_⟩
 ·unfold gatherFault
  rw [if_pos (by rw [la,lb]),la]
  have:∀ k,k≤ls.length→gatherFaultTo as' bs k=0:=fun k=>by
   induction k with
   | zero=>intro _;rfl
   | succ k ih=>intro hk;rw [gather_next (ih (by omega))];exact hp k (by omega)
  exact this _ (Nat.le_refl _)
 ·have e:gx (gatherTo as' bs as'.length) k=pairSum (gx as' k) (gx bs k):=by
   unfold gx gatherTo
   rw [List.getElem?_map,List.getElem?_range (by omega)]
   rfl
  obtain ⟨a1,a2,a3,a4⟩:=fa k hk
  rw [e]
  exact ⟨matAdd_fault a1,matAdd_fault a2,a3,a4⟩
theorem lossBack_fault {a b:Mat} (ha:a.fault=0):(lossBack a b).fault=0:=by
 obtain ⟨R,K,xs,rfl,hR,hK,hl,_⟩:=mat_form ha
 exact matFault_zero (R:=R) (C:=K) hR hK ((upto_length _ _).trans hl) (inEnds_upto fun k _=>clamp_clamp _)
end Gal
end
section
namespace Gal
def ints (l:List Nat):List Int:=l.map fun (n:Nat)=>(n:Int)
theorem ints_snoc (l:List Nat) (n:Nat):ints (l++[n])=ints l++[(n:Int)]:=by simp [ints]
theorem ints_length (l:List Nat):(ints l).length=l.length:=by simp [ints]
def sizesOf:Nat→Nat→List Nat
 | _,0=>[]
 | rows,left+1=>(rows+left) / (left+1) :: sizesOf (rows - (rows+left) / (left+1)) left
theorem sizesOf_succ (rows left:Nat):sizesOf rows (left+1)=(rows+left) / (left+1) :: sizesOf (rows - (rows+left) / (left+1)) left:=rfl
def sizesFault (rows parts:Int):Int:=if rows<1∨24<rows∨parts<1∨12<parts then 1 else if rows<parts then 2 else 0
theorem sizesOf_length (left:Nat):∀ rows,(sizesOf rows left).length=left:=by
 induction left with
 | zero=>intro rows;rfl
 | succ left ih=>intro rows;simp [sizesOf,ih]
theorem share_le (rows left:Nat):(rows+left) / (left+1)≤rows:=by
 rw [Nat.div_le_iff_le_mul_add_pred (by omega)]
 have:rows≤(left+1)*rows:=Nat.le_mul_of_pos_left rows (by omega)
 omega
theorem share_pos {rows left:Nat} (h:left+1≤rows):1≤(rows+left) / (left+1):=by
 rw [Nat.le_div_iff_mul_le (by omega)];omega
theorem share_rest {rows left:Nat} (h:left+1≤rows):left≤rows - (rows+left) / (left+1):=by
 have h1:(rows+left) / (left+1)≤rows - left:=by
  rw [Nat.div_le_iff_le_mul_add_pred (by omega)]
  have h2:left*1≤left*(rows - left):=Nat.mul_le_mul_left _ (by omega)
  rw [Nat.add_mul]
  omega
 omega
theorem sizesOf_sum (left:Nat):∀ rows,1≤left→(sizesOf rows left).sum=rows:=by
 induction left with
 | zero=>intro rows h;omega
 | succ left ih=>
  intro rows _
  unfold sizesOf
  rw [List.sum_cons]
  have h1:=share_le rows left
  rcases Nat.eq_zero_or_pos left with h0|h0
  ·subst h0
   simp [sizesOf]
  ·rw [ih _ h0]
   omega
theorem sizesOf_pos (left:Nat):∀ rows,left≤rows→∀ n ∈ sizesOf rows left,1≤n:=by
 induction left with
 | zero=>intro rows h n hn;simp [sizesOf] at hn
 | succ left ih=>
  intro rows h n hn
  unfold sizesOf at hn
  rcases List.mem_cons.1 hn with rfl|hn
  ·exact share_pos h
  ·exact ih _ (share_rest h) n hn
theorem sizesOf_falls (left:Nat):∀ rows,∀ i,i+1<left→(sizesOf rows left)[i+1]?.getD 0≤(sizesOf rows left)[i]?.getD 0:=by
 induction left with
 | zero=>intro rows i h;omega
 | succ left ih=>
  intro rows i hi
  cases i with
  | succ i=>
   simp only [sizesOf,List.getElem?_cons_succ]
   exact ih _ i (by omega)
  | zero=>
   cases left with
   | zero=>omega
   | succ left=>
    simp only [sizesOf,List.getElem?_cons_succ,List.getElem?_cons_zero,Option.getD_some]
    generalize hn:(rows+(left+1)) / (left+1+1)=n
    have h1:rows≤n*(left+2):=by
     have:=Nat.lt_mul_div_succ (rows+(left+1)) (show 0<left+1+1 by omega)
     rw [hn,Nat.mul_add,Nat.mul_one] at this
     rw [Nat.mul_comm]
     show rows≤(left+1+1)*n
     omega
    rw [Nat.div_le_iff_le_mul_add_pred (by omega),Nat.mul_comm]
    rw [Nat.mul_add] at h1
    rw [Nat.mul_add]
    omega
end Gal
end
section
namespace Gal
structure Bat where
 I:Mat
 W:Mat
def Bat.fault (b:Bat):Int:=if b.I.fault≠0 then b.I.fault else if b.W.fault≠0 then b.W.fault else if b.I.rows≠b.W.rows∨b.I.rows<1 then 2 else 0
def nx (s:List Nat) (k:Nat):Nat:=s[k]?.getD 0
def atOf (s:List Nat):Nat→Nat
 | 0=>0
 | k+1=>atOf s k+nx s k
theorem atOf_cons (x:Nat) (s:List Nat):∀ k,atOf (x :: s) (k+1)=x+atOf s k
 | 0=>by simp [atOf,nx]
 | k+1=>by
  show atOf (x :: s) (k+1)+nx (x :: s) (k+1)=x+(atOf s k+nx s k)
  rw [atOf_cons x s k]
  have:nx (x :: s) (k+1)=nx s k:=by simp [nx]
  omega
theorem atOf_le:∀ (s:List Nat) (k:Nat),atOf s k≤s.sum
 | [],k=>by
  have:∀ k,atOf [] k=0:=fun k=>by induction k with
   | zero=>rfl
   | succ k ih=>show atOf [] k+nx [] k=0;rw [ih];simp [nx]
  rw [this];exact Nat.zero_le _
 | x :: s,0=>Nat.zero_le _
 | x :: s,k+1=>by
  rw [atOf_cons,List.sum_cons]
  have:=atOf_le s k
  omega
def partOf (d:Bat) (s:List Nat) (k:Nat):Bat:=⟨matRows d.I (atOf s k) (atOf s (k+1)),matRows d.W (atOf s k) (atOf s (k+1))⟩
def partsTo (d:Bat) (s:List Nat) (k:Nat):List Bat:=(List.range k).map (partOf d s)
theorem partsTo_succ (d:Bat) (s:List Nat) (k:Nat):partsTo d s (k+1)=partsTo d s k++[partOf d s k]:=by simp [partsTo,List.range_succ]
theorem partsTo_length (d:Bat) (s:List Nat) (k:Nat):(partsTo d s k).length=k:=by simp [partsTo]
def splitFault (d:Bat) (p:Int):Int:=if d.fault≠0 then d.fault else sizesFault d.I.rows p
theorem Bat.fault_ok {d:Bat} (h:d.fault=0):d.I.fault=0∧d.W.fault=0∧d.I.rows=d.W.rows∧1≤d.I.rows:=by
 unfold Bat.fault at h
 by_cases h1:d.I.fault=0
 ·rw [if_neg (by simp [h1])] at h
  by_cases h2:d.W.fault=0
  ·rw [if_neg (by simp [h2])] at h
   by_cases h3:d.I.rows≠d.W.rows∨d.I.rows<1
   ·rw [if_pos h3] at h;omega
   ·exact ⟨h1,h2,by omega,by omega⟩
  ·rw [if_pos h2] at h;exact absurd h h2
 ·rw [if_pos h1] at h;exact absurd h h1
theorem sizesFault_ok {r p:Int} (h:sizesFault r p=0):1≤r∧r≤24∧1≤p∧p≤12∧p≤r:=by
 unfold sizesFault at h
 by_cases h1:r<1∨24<r∨p<1∨12<p
 ·rw [if_pos h1] at h;omega
 ·rw [if_neg h1] at h
  by_cases h2:r<p
  ·rw [if_pos h2] at h;omega
  ·omega
theorem part_fault {m:Mat} {s:List Nat} {k:Nat} (h:m.fault=0) (hs:(s.sum:Int)=m.rows):rowsFault m (atOf s k) (atOf s (k+1))=0:=by
 unfold rowsFault
 have h1:=atOf_le s (k+1)
 have h2:atOf s k≤atOf s (k+1):=Nat.le_add_right _ _
 rw [if_pos h,if_neg (by omega)]
def bx (ds:List Bat) (i:Nat):Bat:=ds[i]?.getD ⟨Mat.none,Mat.none⟩
theorem bx_get {ds:List Bat} {i:Nat} (h:i<ds.length):ds[i]?=some (bx ds i):=by unfold bx;rw [List.getElem?_eq_getElem h];rfl
end Gal
end
section
namespace Gal
theorem part_whole {m:Mat} {s:List Nat} {k:Nat} (h:m.fault=0) (hs:(s.sum:Int)=m.rows):(matRows m (atOf s k) (atOf s (k+1))).fault=0∧(matRows m (atOf s k) (atOf s (k+1))).rows=(nx s k:Int)∧(matRows m (atOf s k) (atOf s (k+1))).cols=m.cols:=by
 obtain ⟨R,K,xs,rfl,hR,hK,hl,he⟩:=mat_form h
 have h1:=atOf_le s (k+1)
 have h2:atOf s (k+1)=atOf s k+nx s k:=rfl
 have hs':s.sum=R:=by dsimp only at hs;omega
 rw [rows_upto (show atOf s k≤atOf s (k+1) by omega) (by omega) hl]
 refine ⟨?_,?_,rfl⟩
 ·refine matFault_zero (by omega) hK (upto_length _ _) (inEnds_upto fun j hj=>he _ ?_)
  have h3:atOf s k*K+(atOf s (k+1) - atOf s k)*K=atOf s (k+1)*K:=by rw [← Nat.add_mul];congr 1;omega
  have h4:atOf s (k+1)*K≤R*K:=Nat.mul_le_mul_right K (by omega)
  omega
 ·dsimp only
  omega
structure Sta where
 N:List Lay
 V:List Grd
 steps:Int
def stPart (l:Lay) (v:Grd):Int:=if l.fault≠0 then l.fault else if v.W.fault≠0 then v.W.fault else if v.B.fault≠0 then v.B.fault else if likeShape v.W l.W∧likeShape v.B l.B then 0 else 2
theorem stPart_ok {l:Lay} {v:Grd} (h:stPart l v=0):l.fault=0∧gradFits l v:=by
 unfold stPart at h
 by_cases h1:l.fault=0
 ·rw [if_neg (by simp [h1])] at h
  by_cases h2:v.W.fault=0
  ·rw [if_neg (by simp [h2])] at h
   by_cases h3:v.B.fault=0
   ·rw [if_neg (by simp [h3])] at h
    by_cases h4:likeShape v.W l.W∧likeShape v.B l.B
    ·exact ⟨h1,h2,h3,h4.1,h4.2⟩
    ·rw [if_neg h4] at h;exact absurd h (by decide)
   ·rw [if_pos h3] at h;exact absurd h h3
  ·rw [if_pos h2] at h;exact absurd h h2
 ·rw [if_pos h1] at h;exact absurd h h1
theorem stPart_zero {l:Lay} {v:Grd} (h1:l.fault=0) (h2:gradFits l v):stPart l v=0:=by
 unfold stPart
 rw [if_neg (by simp [h1]),if_neg (by simp [h2.1]),if_neg (by simp [h2.2.1]),if_pos h2.2.2]
def stTo (ls:List Lay) (vs:List Grd):Nat→Int
 | 0=>0
 | k+1=>if stTo ls vs k=0 then stPart (lx ls k) (gx vs k) else stTo ls vs k
theorem stTo_next {ls:List Lay} {vs:List Grd} {k:Nat} (h:stTo ls vs k=0):stTo ls vs (k+1)=stPart (lx ls k) (gx vs k):=if_pos h
theorem stTo_stays {ls:List Lay} {vs:List Grd} {k m:Nat} (h:k≤m) (hk:stTo ls vs k≠0):stTo ls vs m=stTo ls vs k:=by
  induction m with
  | zero => obtain rfl:k=0:=by omega
            rfl
  | succ m ih=>
    rcases Nat.lt_or_ge k (m+1) with h1|h1
    · have e:=ih (by omega)
      show (if stTo ls vs m=0 then _ else _)=_
      rw [if_neg (by rw [e];exact hk),e]
    · obtain rfl:k=m+1:=by omega
      rfl
theorem stTo_all {ls:List Lay} {vs:List Grd}:∀ {n:Nat},stTo ls vs n=0→∀ k,k<n→stPart (lx ls k) (gx vs k)=0
 | 0,_,k,hk=>absurd hk (Nat.not_lt_zero _)
 | n+1,h,k,hk=>by
  have h0:stTo ls vs n=0:=Classical.byContradiction fun hne=>hne ((stTo_stays (Nat.le_succ n) hne).symm.trans h)
  rcases Nat.lt_or_ge k n with h1|h1
  ·exact stTo_all h0 k h1
  ·obtain rfl:k=n:=by omega
   rw [stTo_next h0] at h
   exact h
theorem stTo_zero {ls:List Lay} {vs:List Grd}:∀ {n:Nat},(∀ k,k<n→stPart (lx ls k) (gx vs k)=0)→stTo ls vs n=0
 | 0,_=>rfl
 | n+1,h=>by rw [stTo_next (stTo_zero fun k hk=>h k (by omega))];exact h n (by omega)
def Sta.fault (s:Sta):Int:=if 12<s.N.length then 3 else if s.V.length≠s.N.length then 2 else if s.steps<0∨1000000000<s.steps then 1 else stTo s.N s.V s.N.length
theorem Sta.fault_ok {s:Sta} (h:s.fault=0):s.N.length≤12∧0≤s.steps∧s.steps≤1000000000∧(∀ k,k<s.N.length→(lx s.N k).fault=0)∧listFits s.N s.V:=by
 unfold Sta.fault at h
 by_cases h1:12<s.N.length
 ·rw [if_pos h1] at h;exact absurd h (by decide)
 rw [if_neg h1] at h
 by_cases h2:s.V.length≠s.N.length
 ·rw [if_pos h2] at h;exact absurd h (by decide)
 rw [if_neg h2] at h
 by_cases h3:s.steps<0∨1000000000<s.steps
 ·rw [if_pos h3] at h;exact absurd h (by decide)
 rw [if_neg h3] at h
 have h4:=stTo_all h
 exact ⟨by omega,by omega,by omega,fun k hk=>(stPart_ok (h4 k hk)).1,by omega,fun k hk=>(stPart_ok (h4 k hk)).2⟩
section
variable (N:List Lay) (b:Bat) (S:List Nat)
def partOff (d:Bat):Int:=lossOf (midOf N d.I) d.W
def partBack (d:Bat):Mat:=lossBack (midOf N d.I) d.W
def partTurn (d:Bat):List Grd:=bDs N (sawOne N d.I) (partBack N d) N.length
def byTo:Nat→List Grd
 | 0=>zeroNet N
 | k+1=>gatherTo (byTo k) (partTurn N (partOf b S k)) (byTo k).length
def offTo:Nat→Int
 | 0=>0
 | k+1=>add (offTo k) (partOff N (partOf b S k))
end
def sizesIn (b:Bat) (p:Int):List Nat:=sizesOf b.I.rows.toNat p.toNat
def oneFault (s:Sta) (b:Bat) (p ln kp:Int):Int:=
 if s.fault≠0 then s.fault else if splitFault b p≠0 then splitFault b p else if netWideFault s.N b.I.cols≠0 then netWideFault s.N b.I.cols else if netW s.N b.I.cols s.N.length≠b.W.cols then 2
 else if 12<nx (sizesIn b p) 0 then 1 else if ln<0∨256<ln∨kp<0∨256<kp then 1 else 0
def oneOf (s:Sta) (b:Bat) (p ln kp:Int):Sta:=
 ⟨stepLays s.N s.V (byTo s.N b (sizesIn b p) p.toNat) ln kp s.N.length,stepGrds s.N s.V (byTo s.N b (sizesIn b p) p.toNat) kp s.N.length,s.steps+1⟩
def oneOff (s:Sta) (b:Bat) (p:Int):Int:=offTo s.N b (sizesIn b p) p.toNat
theorem nx_falls {left rows:Nat}:∀ k,k<left→nx (sizesOf rows left) k≤nx (sizesOf rows left) 0
 | 0,_=>Nat.le_refl _
 | k+1,h=>Nat.le_trans (sizesOf_falls left rows k (by omega)) (nx_falls k (by omega))
theorem nx_pos {left rows k:Nat} (h:left≤rows) (hk:k<left):1≤nx (sizesOf rows left) k:=by
 have hl:k<(sizesOf rows left).length:=by rw [sizesOf_length];exact hk
 unfold nx
 rw [List.getElem?_eq_getElem hl]
 exact sizesOf_pos left rows h _ (List.getElem_mem hl)
structure PartOk (N:List Lay) (d:Bat):Prop where
 I:d.I.fault=0
 W:d.W.fault=0
 rows:d.I.rows=d.W.rows∧1≤d.I.rows∧d.I.rows≤12
 go:netGoFault N d.I=0
 loss:lossFault (midOf N d.I) d.W=0
 back:netBackFault N (sawOne N d.I) (partBack N d)=0
 turn:listFits N (partTurn N d)
theorem part_ok {N:List Lay} {d:Bat} (h12:N.length≤12) (hI:d.I.fault=0) (hW:d.W.fault=0) (hr:d.I.rows=d.W.rows) (h1:1≤d.I.rows) (hr12:d.I.rows≤12) (hw:wideTo N d.I.cols N.length=0) (hc:netW N d.I.cols N.length=d.W.cols):PartOk N d:=by
 obtain ⟨g1,g2,g3⟩:=go_wide (n:=N) hI hw
 have hm:(midOf N d.I).fault=0:=netTo_fault hI g1
 have hrow:∀ k,k≤N.length→(netTo N d.I k).rows=d.I.rows:=fun k hk=>(go_wide (n:=N) hI (wideTo_less hk hw)).2.2
 have hb:(partBack N d).fault=0:=lossBack_fault hm
 have hbr:(partBack N d).rows=d.I.rows:=g3
 have hbc:(partBack N d).cols=(netTo N d.I N.length).cols:=rfl
 obtain ⟨q1,_⟩:=backs_ok g1 hb hbr hbc hr12 hrow N.length (Nat.le_refl _)
 refine ⟨hI,hW,⟨hr,h1,hr12⟩,?_,lossFault_zero hm hW (g3.trans hr) (g2.trans hc),netBackFault_zero h12 (netOuts_length _ _ _) hb q1,bDs_fits g1 hb hbr hbc hr12 hrow⟩
 unfold netGoFault
 rw [if_neg (by omega),if_neg (by simp [hI])]
 exact g1
theorem oneFault_ok {s:Sta} {b:Bat} {p ln kp:Int} (h:oneFault s b p ln kp=0) :
  s.fault=0∧splitFault b p=0∧netWideFault s.N b.I.cols=0∧netW s.N b.I.cols s.N.length=b.W.cols∧nx (sizesIn b p) 0≤12∧0≤ln∧ln≤256∧0≤kp∧kp≤256:=by
 unfold oneFault at h
 by_cases h1:s.fault=0
 ·rw [if_neg (by simp [h1])] at h
  by_cases h2:splitFault b p=0
  ·rw [if_neg (by simp [h2])] at h
   by_cases h3:netWideFault s.N b.I.cols=0
   ·rw [if_neg (by simp [h3])] at h
    by_cases h4:netW s.N b.I.cols s.N.length=b.W.cols
    ·rw [if_neg (by simp [h4])] at h
     by_cases h5:12<nx (sizesIn b p) 0
     ·rw [if_pos h5] at h;exact absurd h (by decide)
     ·rw [if_neg h5] at h
      by_cases h6:ln<0∨256<ln∨kp<0∨256<kp
      ·rw [if_pos h6] at h;exact absurd h (by decide)
      ·exact ⟨h1,h2,h3,h4,by omega,by omega,by omega,by omega,by omega⟩
    ·rw [if_pos h4] at h;exact absurd h (by decide)
   ·rw [if_pos h3] at h;exact absurd h h3
  ·rw [if_pos h2] at h;exact absurd h h2
 ·rw [if_pos h1] at h;exact absurd h h1
theorem splitFault_ok {b:Bat} {p:Int} (h:splitFault b p=0):b.fault=0∧1≤p∧p≤12∧p≤b.I.rows∧b.I.rows≤24:=by
 unfold splitFault at h
 by_cases h1:b.fault=0
 ·rw [if_neg (by simp [h1])] at h
  obtain ⟨_,h2,h3,h4,h5⟩:=sizesFault_ok h
  exact ⟨h1,h3,h4,h5,h2⟩
 ·rw [if_pos h1] at h;exact absurd h h1
theorem sizes_sum {b:Bat} {p:Int} (h:splitFault b p=0):((sizesIn b p).sum:Int)=b.I.rows:=by
 obtain ⟨_,h1,_,h2,_⟩:=splitFault_ok h
 unfold sizesIn
 rw [sizesOf_sum _ _ (by omega)]
 omega
theorem one_parts {s:Sta} {b:Bat} {p ln kp:Int} (h:oneFault s b p ln kp=0):∀ k,k<p.toNat→PartOk s.N (partOf b (sizesIn b p) k):=by
 obtain ⟨h1,h2,h3,h4,h5,_⟩:=oneFault_ok h
 obtain ⟨f1,_⟩:=Sta.fault_ok h1
 obtain ⟨b1,p1,p2,p3,p4⟩:=splitFault_ok h2
 obtain ⟨i1,i2,i3,i4⟩:=Bat.fault_ok b1
 have hsum:=sizes_sum h2
 have hw:wideTo s.N b.I.cols s.N.length=0:=by
  unfold netWideFault at h3
  rw [if_neg (by omega)] at h3
  by_cases hq:s.N.length=0∧(b.I.cols<0∨12<b.I.cols)
  ·rw [if_pos hq] at h3;exact absurd h3 (by decide)
  ·rwa [if_neg hq] at h3
 intro k hk
 obtain ⟨a1,a2,a3⟩:=part_whole (k:=k) i1 hsum
 obtain ⟨c1,c2,c3⟩:=part_whole (m:=b.W) (k:=k) i2 (hsum.trans i3)
 have hn1:1≤nx (sizesIn b p) k:=nx_pos (by omega) hk
 have hn2:nx (sizesIn b p) k≤nx (sizesIn b p) 0:=nx_falls k hk
 refine part_ok f1 a1 c1 (a2.trans c2.symm) ?_ ?_ ?_ ?_
 ·show 1≤(matRows b.I (atOf (sizesIn b p) k) (atOf (sizesIn b p) (k+1))).rows
  rw [a2];omega
 ·show (matRows b.I (atOf (sizesIn b p) k) (atOf (sizesIn b p) (k+1))).rows≤12
  rw [a2];omega
 ·show wideTo s.N (matRows b.I (atOf (sizesIn b p) k) (atOf (sizesIn b p) (k+1))).cols s.N.length=0
  rw [a3];exact hw
 ·show netW s.N (matRows b.I (atOf (sizesIn b p) k) (atOf (sizesIn b p) (k+1))).cols s.N.length=(matRows b.W (atOf (sizesIn b p) k) (atOf (sizesIn b p) (k+1))).cols
  rw [a3,c3];exact h4
theorem byTo_fits {s:Sta} {b:Bat} {p ln kp:Int} (h:oneFault s b p ln kp=0):∀ k,k≤p.toNat→listFits s.N (byTo s.N b (sizesIn b p) k)
 | 0,_=>zeros_fit (Sta.fault_ok (oneFault_ok h).1).2.2.2.1
 | k+1,hk=>(gather_fits (byTo_fits h k (by omega)) (one_parts h k (by omega)).turn).2
theorem byTo_gather {s:Sta} {b:Bat} {p ln kp:Int} (h:oneFault s b p ln kp=0) {k:Nat} (hk:k<p.toNat):gatherFault (byTo s.N b (sizesIn b p) k) (partTurn s.N (partOf b (sizesIn b p) k))=0:=
 (gather_fits (byTo_fits h k (by omega)) (one_parts h k hk).turn).1
theorem one_step {s:Sta} {b:Bat} {p ln kp:Int} (h:oneFault s b p ln kp=0):stepFault s.N s.V (byTo s.N b (sizesIn b p) p.toNat) ln kp=0:=by
 obtain ⟨h1,_,_,_,_,h6,h7,h8,h9⟩:=oneFault_ok h
 obtain ⟨f1,_,_,f4,f5,f6⟩:=Sta.fault_ok h1
 obtain ⟨g1,g2⟩:=byTo_fits h p.toNat (Nat.le_refl _)
 refine stepFault_none ⟨h6,h7,h8,h9⟩ f1 f5 g1 fun k hk=>?_
 obtain ⟨a1,a2,a3,a4⟩:=f6 k hk
 obtain ⟨c1,c2,c3,c4⟩:=g2 k hk
 exact fits_mk (f4 k hk) a1 a2 c1 c2 a3 a4 c3 c4
end Gal
end
section
namespace Gal
section
variable (s:Sta) (l:List Bat) (p ln kp:Int)
def allSt:Nat→Sta
 | 0=>s
 | k+1=>oneOf (allSt k) (bx l k) p ln kp
def allFt:Nat→Int
 | 0=>0
 | k+1=>if allFt k=0 then oneFault (allSt s l p ln kp k) (bx l k) p ln kp else allFt k
end
section
variable {s:Sta} {l:List Bat} {p ln kp:Int} {k m n:Nat}
theorem allFt_next (h:allFt s l p ln kp k=0):allFt s l p ln kp (k+1)=oneFault (allSt s l p ln kp k) (bx l k) p ln kp:=if_pos h
theorem allFt_stays (h:k≤m) (hk:allFt s l p ln kp k≠0):allFt s l p ln kp m=allFt s l p ln kp k:=by
  induction m with
  | zero => obtain rfl:k=0:=by omega
            rfl
  | succ m ih=>
    rcases Nat.lt_or_ge k (m+1) with h1|h1
    · have e:=ih (by omega)
      show (if allFt s l p ln kp m=0 then _ else _)=_
      rw [if_neg (by rw [e];exact hk),e]
    · obtain rfl:k=m+1:=by omega
      rfl
theorem allFt_stop (hk:k<n) (hz:allFt s l p ln kp k=0) (hf:oneFault (allSt s l p ln kp k) (bx l k) p ln kp≠0):allFt s l p ln kp n=oneFault (allSt s l p ln kp k) (bx l k) p ln kp:=by
 rw [allFt_stays (k:=k+1) (by omega) (by rw [allFt_next hz];exact hf),allFt_next hz]
theorem allFt_less (hk:k≤m) (h:allFt s l p ln kp m=0):allFt s l p ln kp k=0:=Classical.byContradiction fun hne=>hne ((allFt_stays hk hne).symm.trans h)
theorem allSt_steps:(allSt s l p ln kp k).steps=s.steps+k:=by
 induction k with
 | zero=>simp [allSt]
 | succ k ih=>
  show (allSt s l p ln kp k).steps+1=_
  rw [ih]
  omega
end
theorem oneOf_fits {s:Sta} {b:Bat} {p ln kp:Int} (h:oneFault s b p ln kp=0) (hs:s.steps+1≤1000000000):(oneOf s b p ln kp).fault=0:=by
 have hst:=one_step h
 obtain ⟨f1,f2,f3,f4,f5,f6⟩:=Sta.fault_ok (oneFault_ok h).1
 obtain ⟨_,_,_,_,g5⟩:=stepFault_ok hst
 unfold Sta.fault oneOf
 dsimp only
 rw [stepLays_length,stepGrds_length,if_neg (by omega),if_neg (by omega),if_neg (by omega)]
 refine stTo_zero fun k hk=>?_
 obtain ⟨a0,a1,a2,a3,a4,a5,a6,a7,a8⟩:=fitsFault_ok (g5 k hk)
 have e1:lx (stepLays s.N s.V (byTo s.N b (sizesIn b p) p.toNat) ln kp s.N.length) k=stepLay (lx s.N k) (gx s.V k) (gx (byTo s.N b (sizesIn b p) p.toNat) k) ln kp:=by
  unfold lx stepLays
  rw [List.getElem?_map,List.getElem?_range hk]
  rfl
 have e2:gx (stepGrds s.N s.V (byTo s.N b (sizesIn b p) p.toNat) kp s.N.length) k=stepGrd (lx s.N k) (gx s.V k) (gx (byTo s.N b (sizesIn b p) p.toNat) k) kp:=by
  unfold gx stepGrds
  rw [List.getElem?_map,List.getElem?_range hk]
  rfl
 rw [e1,e2]
 have hto:∀ {w v d:Mat},w.fault=0→(stepTo w v d ln kp).fault=0:=fun {w v d} hw=>by
  obtain ⟨R,K,xs,rfl,hR,hK,hl,_⟩:=mat_form hw
  exact matFault_zero (R:=R) (C:=K) hR hK ((upto_length _ _).trans hl) (inEnds_upto fun k _=>clamp_clamp _)
 have hsp:∀ {w v d:Mat},w.fault=0→(stepSpeed w v d kp).fault=0:=fun {w v d} hw=>by
  obtain ⟨R,K,xs,rfl,hR,hK,hl,_⟩:=mat_form hw
  exact matFault_zero (R:=R) (C:=K) hR hK ((upto_length _ _).trans hl) (inEnds_upto fun k _=>clamp_clamp _)
 obtain ⟨c1,c2,c3,c4,c5⟩:=Lay.fault_ok a0
 refine stPart_zero ?_ ⟨hsp c3,hsp c4,⟨rfl,rfl⟩,⟨rfl,rfl⟩⟩
 unfold Lay.fault stepLay
 dsimp only
 rw [if_neg (by omega),if_neg (by simp [hto c3]),if_neg (by simp [hto c4]),if_pos]
 exact c5
end Gal
end
