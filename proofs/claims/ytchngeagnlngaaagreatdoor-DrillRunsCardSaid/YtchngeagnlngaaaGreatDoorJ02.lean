/- Texts joined: PLaws, PNet, PStep, PBack, PJoins, PGath, PStay. -/
import Derived.Test.YtchngeagnlngaaaGreatDoorJ01
set_option linter.unusedVariables false
set_option linter.unusedSimpArgs false
set_option linter.unusedSectionVars false
section
namespace Gal
theorem inEnds_upto {f:Nat→Int} {n:Nat} (h:∀ k,k<n→clamp (f k)=f k):inEnds (upto f n):=by
 intro j hj
 rw [upto_length] at hj
 rw [upto_ix hj]
 exact h j hj
theorem mat_form {m:Mat} (h:m.fault=0):∃ (R K:Nat) (xs:List Int),m=⟨R,K,xs⟩∧R≤24∧K≤12∧xs.length=R*K∧inEnds xs:=by
 obtain ⟨R,K,eR,eK,hR,hK,hl,he⟩:=matFault_ok h
 obtain ⟨r,c,xs⟩:=m
 dsimp only at eR eK hl he
 subst eR eK
 exact ⟨R,K,xs,rfl,hR,hK,hl,he⟩
theorem go_rows' (l:Lay) (x:Mat):(l.go x).rows=x.rows:=by
 unfold Lay.go
 by_cases h1:l.kind=1
 ·rw [if_pos h1]
 ·rw [if_neg h1]
  by_cases h2:l.kind=2
  ·rw [if_pos h2]
  ·rw [if_neg h2]
   by_cases h3:l.kind=3
   ·rw [if_pos h3]
   ·rw [if_neg h3]
theorem go_cols (l:Lay) (x:Mat):(l.go x).cols=l.wide x.cols:=by
 unfold Lay.go Lay.wide
 by_cases h1:l.kind=1
 ·rw [if_pos h1,if_pos h1]
 ·rw [if_neg h1,if_neg h1]
  by_cases h2:l.kind=2
  ·rw [if_pos h2]
  ·rw [if_neg h2]
   by_cases h3:l.kind=3
   ·rw [if_pos h3]
   ·rw [if_neg h3]
theorem matMul_cells (R K C:Nat) (xs ys:List Int):(matMul ⟨R,K,xs⟩ ⟨K,C,ys⟩).cells.length=R*C:=by
 unfold matMul
 simp only [Int.toNat_natCast]
 exact grid_length _ _ _
theorem clamp_max {x:Int} (h:clamp x=x):clamp (max x 0)=max x 0:=by
 have h1:=clamp_lo x
 have h2:=clamp_hi x
 rw [h] at h1 h2
 exact clamp_id (by omega) (by omega)
theorem clamp_zero:clamp 0=0:=clamp_id (by omega) (by omega)
theorem go_fault {l:Lay} {x:Mat} (hf:l.goFault x=0):(l.go x).fault=0:=by
 obtain ⟨hl,hx,ht⟩:=Lay.goFault_ok hf
 obtain ⟨h1,h2,fw,fb,fit⟩:=Lay.fault_ok hl
 obtain ⟨R,K,xs,rfl,hR,hK,hlen,hin⟩:=mat_form hx
 unfold Lay.go
 by_cases k1:l.kind=1
 ·rw [if_pos k1]
  obtain ⟨R',C,ws,hW,hR',hC,hlw,_⟩:=mat_form fw
  have e:=ht.1 k1
  rw [hW] at e ⊢
  dsimp only at e
  obtain rfl:K=R':=by omega
  exact matFault_zero hR hC (by rw [moreCells_length,matMul_cells]) (inEnds_upto fun k _=>clamp_clamp _)
 ·rw [if_neg k1]
  by_cases k2:l.kind=2
  ·rw [if_pos k2]
   exact matFault_zero hR hK (by rw [upto_length];exact hlen) (inEnds_upto fun k hk=>clamp_max (hin k hk))
  ·rw [if_neg k2]
   by_cases k3:l.kind=3
   ·rw [if_pos k3]
    exact matFault_zero hR hK (by rw [upto_length];exact hlen) (inEnds_upto fun k hk=>clamp_clamp _)
   ·rw [if_neg k3]
    exact matFault_zero hR hK (by rw [moreCells_length];exact hlen) (inEnds_upto fun k hk=>clamp_clamp _)
theorem back_fault {l:Lay} {x g:Mat} (hf:l.backFault x g=0):(l.back x g).fault=0∧(l.back x g).rows=x.rows∧(l.back x g).cols=x.cols:=by
 obtain ⟨f1,f2,f3,f4,f5⟩:=Lay.backFault_ok hf
 obtain ⟨hl,hx,ht⟩:=Lay.goFault_ok f1
 obtain ⟨h1,h2,fw,fb,fit⟩:=Lay.fault_ok hl
 obtain ⟨R,K,xs,rfl,hR,hK,hlen,hin⟩:=mat_form hx
 obtain ⟨R',K',ys,rfl,hR',hK',hlen',hin'⟩:=mat_form f2
 dsimp only at f3 f4 f5 ht
 obtain rfl:R'=R:=by omega
 unfold Lay.back
 by_cases k1:l.kind=1
 ·rw [if_pos k1]
  obtain ⟨Q,C,ws,hW,hQ,hC,hlw,_⟩:=mat_form fw
  have e:=ht.1 k1
  have e2:(K':Int)=l.W.cols:=by rw [f4];unfold Lay.wide;rw [if_pos k1]
  rw [hW] at e e2 ⊢
  dsimp only at e e2
  obtain rfl:K=Q:=by omega
  obtain rfl:K'=C:=by omega
  refine ⟨?_,rfl,rfl⟩
  unfold matTurn
  exact matMul_fault hR hK
 ·rw [if_neg k1]
  have e2:(K':Int)=K:=by rw [f4];unfold Lay.wide;rw [if_neg k1]
  obtain rfl:K'=K:=by omega
  by_cases k2:l.kind=2
  ·rw [if_pos k2]
   refine ⟨matFault_zero hR hK (by rw [upto_length];exact hlen) (inEnds_upto fun k hk=>?_),rfl,rfl⟩
   by_cases hp:0<ix xs k
   ·dsimp only;rw [if_pos hp];exact hin' k (by rw [hlen',← hlen];exact hk)
   ·dsimp only;rw [if_neg hp];exact clamp_zero
  ·rw [if_neg k2]
   by_cases k3:l.kind=3
   ·rw [if_pos k3]
    exact ⟨matFault_zero hR hK (by rw [upto_length];exact hlen') (inEnds_upto fun k hk=>clamp_clamp _),rfl,rfl⟩
   ·rw [if_neg k3]
    exact ⟨matFault_zero hR hK (by rw [upto_length];exact hlen') (inEnds_upto fun k hk=>hin' k hk),rfl,rfl⟩
section
variable {l:Lay} {R K k:Nat} {xs:List Int} (hk:k≤R)
include hk
end
theorem zeros_inEnds (n:Nat):inEnds (zeros n):=fun j _=>by rw [zeros_ix];exact clamp_zero
section
variable {R K:Nat} {xs:List Int} (hK1:1≤K) (hf:(⟨R,K,xs⟩:Mat).fault=0)
include hK1 hf
end
end Gal
end
section
namespace Gal
def Lay.none:Lay:=⟨0,Mat.none,Mat.none⟩
def lx (n:List Lay) (i:Nat):Lay:=n[i]?.getD Lay.none
theorem lx_get {n:List Lay} {i:Nat} (h:i<n.length):n[i]?=some (lx n i):=by unfold lx;rw [List.getElem?_eq_getElem h];rfl
def netW (n:List Lay) (i:Int):Nat→Int
 | 0=>i
 | k+1=>(lx n k).wide (netW n i k)
def wideTo (n:List Lay) (i:Int):Nat→Int
 | 0=>0
 | k+1=>if wideTo n i k=0 then (lx n k).wideFault (netW n i k) else wideTo n i k
def netWideFault (n:List Lay) (i:Int):Int:=
 if 12<n.length then 3 else if n.length=0∧(i<0∨12<i) then 1 else wideTo n i n.length
def netTo (n:List Lay) (x:Mat):Nat→Mat
 | 0=>x
 | k+1=>(lx n k).go (netTo n x k)
def goTo (n:List Lay) (x:Mat):Nat→Int
 | 0=>0
 | k+1=>if goTo n x k=0 then (lx n k).goFault (netTo n x k) else goTo n x k
def netGoFault (n:List Lay) (x:Mat):Int:=if 12<n.length then 3 else if x.fault≠0 then x.fault else goTo n x n.length
def netOuts (n:List Lay) (x:Mat) (k:Nat):List Mat:=(List.range (k+1)).map (netTo n x)
theorem netOuts_succ (n:List Lay) (x:Mat) (k:Nat):netOuts n x (k+1)=netOuts n x k++[netTo n x (k+1)]:=by
 unfold netOuts
 rw [List.range_succ (n:=k+1),List.map_append]
 rfl
theorem netOuts_length (n:List Lay) (x:Mat) (k:Nat):(netOuts n x k).length=k+1:=by simp [netOuts]
theorem netOuts_last (n:List Lay) (x:Mat) (k:Nat):(netOuts n x k)[k]?=some (netTo n x k):=by simp [netOuts]
theorem wideTo_stop {n:List Lay} {i:Int} {k m:Nat} (h:k≤m) (hk:wideTo n i k≠0):wideTo n i m=wideTo n i k:=by
  induction m with
  | zero => obtain rfl:k=0:=by omega
            rfl
  | succ m ih=>
    by_cases hm:k≤m
    · have:=ih hm
      show (if wideTo n i m=0 then _ else wideTo n i m)=_
      rw [if_neg (by rw [this];exact hk),this]
    · obtain rfl:k=m+1:=by omega
      rfl
theorem goTo_stop {n:List Lay} {x:Mat} {k m:Nat} (h:k≤m) (hk:goTo n x k≠0):goTo n x m=goTo n x k:=by
  induction m with
  | zero => obtain rfl:k=0:=by omega
            rfl
  | succ m ih=>
    by_cases hm:k≤m
    · have:=ih hm
      show (if goTo n x m=0 then _ else goTo n x m)=_
      rw [if_neg (by rw [this];exact hk),this]
    · obtain rfl:k=m+1:=by omega
      rfl
theorem wideTo_succ {n:List Lay} {i:Int} {k:Nat} (h:wideTo n i k=0):wideTo n i (k+1)=(lx n k).wideFault (netW n i k):=if_pos h
theorem goTo_succ {n:List Lay} {x:Mat} {k:Nat} (h:goTo n x k=0):goTo n x (k+1)=(lx n k).goFault (netTo n x k):=if_pos h
theorem wide_bd {l:Lay} {i:Int} (h:l.wideFault i=0):0≤l.wide i∧l.wide i≤12:=by
 obtain ⟨h1,h2,h3,h4⟩:=Lay.wideFault_ok h
 obtain ⟨_,_,fw,_,_⟩:=Lay.fault_ok h1
 obtain ⟨R,K,_,e,_,hK,_⟩:=matFault_ok fw
 unfold Lay.wide
 by_cases q:l.kind=1
 ·rw [if_pos q];omega
 ·rw [if_neg q];omega
theorem netW_bd {n:List Lay} {i:Int} {k:Nat} (h:wideTo n i k=0) (hk:0<k):0≤netW n i k∧netW n i k≤12:=by
 cases k with
 | zero=>omega
 | succ k=>
  by_cases h0:wideTo n i k=0
  ·rw [wideTo_succ h0] at h
   exact wide_bd h
  ·have:wideTo n i (k+1)=wideTo n i k:=if_neg h0
   rw [this] at h
   exact absurd h h0
theorem netTo_fault {n:List Lay} {x:Mat} {k:Nat} (hx:x.fault=0) (h:goTo n x k=0):(netTo n x k).fault=0:=by
 cases k with
 | zero=>exact hx
 | succ k=>
  by_cases h0:goTo n x k=0
  ·rw [goTo_succ h0] at h
   exact go_fault h
  ·have:goTo n x (k+1)=goTo n x k:=if_neg h0
   rw [this] at h
   exact absurd h h0
end Gal
end
section
namespace Gal
def gx (ds:List Grd) (i:Nat):Grd:=ds[i]?.getD Grd.none
theorem gx_get {ds:List Grd} {i:Nat} (h:i<ds.length):ds[i]?=some (gx ds i):=by unfold gx;rw [List.getElem?_eq_getElem h];rfl
def stepSpeed (w v d:Mat) (kp:Int):Mat:=⟨w.rows,w.cols,upto (fun k=>add (mul (ix v.cells k) kp) (ix d.cells k)) w.cells.length⟩
def stepTo (w v d:Mat) (ln kp:Int):Mat:=⟨w.rows,w.cols,upto (fun k=>sub (ix w.cells k) (mul (add (mul (ix v.cells k) kp) (ix d.cells k)) ln)) w.cells.length⟩
def likeShape (a b:Mat):Prop:=a.rows=b.rows∧a.cols=b.cols
instance (a b:Mat):Decidable (likeShape a b):=by unfold likeShape;exact inferInstance
def fitsFault (l:Lay) (v d:Grd):Int:=
 if l.fault≠0 then l.fault else if v.W.fault≠0 then v.W.fault else if v.B.fault≠0 then v.B.fault else if d.W.fault≠0 then d.W.fault else if d.B.fault≠0 then d.B.fault else
  if likeShape v.W l.W∧likeShape v.B l.B∧likeShape d.W l.W∧likeShape d.B l.B then 0 else 2
theorem fitsFault_ok {l:Lay} {v d:Grd} (h:fitsFault l v d=0):l.fault=0∧v.W.fault=0∧v.B.fault=0∧d.W.fault=0∧d.B.fault=0∧likeShape v.W l.W∧likeShape v.B l.B∧likeShape d.W l.W∧likeShape d.B l.B:=by
 unfold fitsFault at h
 by_cases h1:l.fault=0
 ·rw [if_neg (by simp [h1])] at h
  by_cases h2:v.W.fault=0
  ·rw [if_neg (by simp [h2])] at h
   by_cases h3:v.B.fault=0
   ·rw [if_neg (by simp [h3])] at h
    by_cases h4:d.W.fault=0
    ·rw [if_neg (by simp [h4])] at h
     by_cases h5:d.B.fault=0
     ·rw [if_neg (by simp [h5])] at h
      by_cases h6:likeShape v.W l.W∧likeShape v.B l.B∧likeShape d.W l.W∧likeShape d.B l.B
      ·exact ⟨h1,h2,h3,h4,h5,h6⟩
      ·rw [if_neg h6] at h;omega
     ·rw [if_pos h5] at h;exact absurd h h5
    ·rw [if_pos h4] at h;exact absurd h h4
   ·rw [if_pos h3] at h;exact absurd h h3
  ·rw [if_pos h2] at h;exact absurd h h2
 ·rw [if_pos h1] at h;exact absurd h h1
def stepFaultTo (ls:List Lay) (vs ds:List Grd):Nat→Int
 | 0=>0
 | k+1=>if stepFaultTo ls vs ds k=0 then fitsFault (lx ls k) (gx vs k) (gx ds k) else stepFaultTo ls vs ds k
def stepFault (ls:List Lay) (vs ds:List Grd) (ln kp:Int):Int:=
 if ln<0∨256<ln∨kp<0∨256<kp then 1 else if 12<ls.length then 3 else if vs.length≠ls.length∨ds.length≠ls.length then 2 else stepFaultTo ls vs ds ls.length
theorem stepFaultTo_succ {ls:List Lay} {vs ds:List Grd} {k:Nat} (h:stepFaultTo ls vs ds k=0):stepFaultTo ls vs ds (k+1)=fitsFault (lx ls k) (gx vs k) (gx ds k):=if_pos h
theorem stepFaultTo_stop {ls:List Lay} {vs ds:List Grd} {k m:Nat} (h:k≤m) (hk:stepFaultTo ls vs ds k≠0):stepFaultTo ls vs ds m=stepFaultTo ls vs ds k:=by
  induction m with
  | zero => obtain rfl:k=0:=by omega
            rfl
  | succ m ih=>
    by_cases hm:k≤m
    · have:=ih hm
      show (if stepFaultTo ls vs ds m=0 then _ else stepFaultTo ls vs ds m)=_
      rw [if_neg (by rw [this];exact hk),this]
    · obtain rfl:k=m+1:=by omega
      rfl
def stepLay (l:Lay) (v d:Grd) (ln kp:Int):Lay:=⟨l.kind,stepTo l.W v.W d.W ln kp,stepTo l.B v.B d.B ln kp⟩
def stepGrd (l:Lay) (v d:Grd) (kp:Int):Grd:=⟨stepSpeed l.W v.W d.W kp,stepSpeed l.B v.B d.B kp⟩
def stepLays (ls:List Lay) (vs ds:List Grd) (ln kp:Int) (k:Nat):List Lay:=(List.range k).map fun i=>stepLay (lx ls i) (gx vs i) (gx ds i) ln kp
def stepGrds (ls:List Lay) (vs ds:List Grd) (kp:Int) (k:Nat):List Grd:=(List.range k).map fun i=>stepGrd (lx ls i) (gx vs i) (gx ds i) kp
theorem stepLays_length (ls:List Lay) (vs ds:List Grd) (ln kp:Int) (k:Nat):(stepLays ls vs ds ln kp k).length=k:=by simp [stepLays]
theorem stepGrds_length (ls:List Lay) (vs ds:List Grd) (kp:Int) (k:Nat):(stepGrds ls vs ds kp k).length=k:=by simp [stepGrds]
theorem stepLays_succ (ls:List Lay) (vs ds:List Grd) (ln kp:Int) (k:Nat):stepLays ls vs ds ln kp (k+1)=stepLays ls vs ds ln kp k++[stepLay (lx ls k) (gx vs k) (gx ds k) ln kp]:=by simp [stepLays,List.range_succ]
theorem stepGrds_succ (ls:List Lay) (vs ds:List Grd) (kp:Int) (k:Nat):stepGrds ls vs ds kp (k+1)=stepGrds ls vs ds kp k++[stepGrd (lx ls k) (gx vs k) (gx ds k) kp]:=by simp [stepGrds,List.range_succ]
end Gal
end
section
namespace Gal
section
variable (ls:List Lay) (ss:List Mat) (g:Mat) (n:Nat)
def bM:Nat→Mat
 | 0=>g
 | k+1=>(lx ls (n - 1 - k)).back (mx ss (n - 1 - k)) (bM k)
def bD (k:Nat):Grd:=(lx ls (n - 1 - k)).grad (mx ss (n - 1 - k)) (bM ls ss g n k)
def bF:Nat→Int
 | 0=>0
 | k+1=>if bF k=0 then (lx ls (n - 1 - k)).backFault (mx ss (n - 1 - k)) (bM ls ss g n k) else bF k
def bDs:List Grd:=(List.range n).map fun j=>bD ls ss g n (n - 1 - j)
def netBackFault:Int:=if 12<ls.length then 3 else if ss.length≠ls.length+1 then 2 else if ls.length=0 then g.fault else bF ls ss g ls.length ls.length
end
section
variable {ls:List Lay} {ss:List Mat} {g:Mat} {n k m:Nat}
theorem bF_next (h:bF ls ss g n k=0):bF ls ss g n (k+1)=(lx ls (n - 1 - k)).backFault (mx ss (n - 1 - k)) (bM ls ss g n k):=if_pos h
theorem bF_stays (h:k≤m) (hk:bF ls ss g n k≠0):bF ls ss g n m=bF ls ss g n k:=by
  induction m with
  | zero => obtain rfl:k=0:=by omega
            rfl
  | succ m ih=>
    rcases Nat.lt_or_ge k (m+1) with h1|h1
    · have e:=ih (by omega)
      show (if bF ls ss g n m=0 then _ else _)=_
      rw [if_neg (by rw [e];exact hk),e]
    · obtain rfl:k=m+1:=by omega
      rfl
theorem bF_stop (hk:k<n) (hz:bF ls ss g n k=0) (hf:(lx ls (n - 1 - k)).backFault (mx ss (n - 1 - k)) (bM ls ss g n k)≠0):bF ls ss g n n=(lx ls (n - 1 - k)).backFault (mx ss (n - 1 - k)) (bM ls ss g n k):=by
 rw [bF_stays (k:=k+1) (by omega) (by rw [bF_next hz];exact hf),bF_next hz]
theorem bDs_length:(bDs ls ss g n).length=n:=by simp [bDs]
theorem bDs_gx {j:Nat} (h:j<n):gx (bDs ls ss g n) j=bD ls ss g n (n - 1 - j):=by
 unfold gx bDs
 rw [List.getElem?_map,List.getElem?_eq_getElem (by simpa using h)]
 simp
end
section
variable (ls:List Lay) (ss:List Mat) (g:Mat)
def gone (l:List Nat):Mat × (Nat→Option Grd):=
 l.foldl (fun s i=>((lx ls i).back (mx ss i) s.1,fun j=>if j=i then some ((lx ls i).grad (mx ss i) s.1) else s.2 j)) (g,fun _=>none)
theorem gone_snoc (l:List Nat) (i:Nat):gone ls ss g (l++[i])=((lx ls i).back (mx ss i) (gone ls ss g l).1,fun j=>if j=i then some ((lx ls i).grad (mx ss i) (gone ls ss g l).1) else (gone ls ss g l).2 j):=by
 unfold gone
 rw [List.foldl_append]
 rfl
inductive OkTo:List Nat→Prop
  | nil:OkTo []
  | snoc {l:List Nat} {x:Nat} (h:OkTo l) (hx:(lx ls x).backFault (mx ss x) (gone ls ss g l).1=0):OkTo (l++[x])
end
section
variable {ls:List Lay} {ss:List Mat} {g:Mat}
theorem OkTo.inv {m:List Nat} (h:OkTo ls ss g m):∀ l x,m=l++[x]→OkTo ls ss g l∧(lx ls x).backFault (mx ss x) (gone ls ss g l).1=0:=by
 intro l x e
 cases h with
 | nil=>simp at e
 | snoc h hx=>
  obtain ⟨e1,e2⟩:=List.append_inj' e rfl
  simp at e2
  subst e1 e2
  exact ⟨h,hx⟩
def descs (n k:Nat):List Nat:=(List.range k).map fun j=>n - 1 - j
theorem descs_length (n k:Nat):(descs n k).length=k:=by simp [descs]
theorem descs_succ (n k:Nat):descs n (k+1)=descs n k++[n - 1 - k]:=by simp [descs,List.range_succ]
theorem gone_descs (n:Nat):∀ t,t≤n→(gone ls ss g (descs n t)).1=bM ls ss g n t∧∀ j,n - t≤j→j<n→(gone ls ss g (descs n t)).2 j=some (bD ls ss g n (n - 1 - j))
 | 0,_=>⟨rfl,fun j h1 h2=>by omega⟩
 | t+1,ht=>by
  obtain ⟨h1,h2⟩:=gone_descs n t (by omega)
  rw [descs_succ,gone_snoc,h1]
  refine ⟨rfl,fun j h3 h4=>?_⟩
  dsimp only
  by_cases hj:j=n - 1 - t
  ·rw [if_pos hj]
   have e:n - 1 - j=t:=by omega
   rw [e]
   rfl
  ·rw [if_neg hj]
   exact h2 j (by omega) h4
theorem bF_descs (n:Nat):∀ t,t≤n→OkTo ls ss g (descs n t)→bF ls ss g n t=0
 | 0,_,_=>rfl
 | t+1,ht,h=>by
  rw [descs_succ] at h
  obtain ⟨h1,h2⟩:=h.inv _ _ rfl
  have h3:=bF_descs n t (by omega) h1
  rw [bF_next h3]
  rw [(gone_descs n t (by omega)).1] at h2
  exact h2
end
end Gal
end
section
namespace Gal
section
variable {ps qs:List Lay} {x g:Mat} {n m:Nat}
theorem goTo_less {k j:Nat} (hk:k≤j) (h:goTo ps x j=0):goTo ps x k=0:=Classical.byContradiction fun hne=>hne ((goTo_stop hk hne).symm.trans h)
def midOf (ps:List Lay) (x:Mat):Mat:=netTo ps x ps.length
theorem outs_mx {k j:Nat} (h:j≤k):mx (netOuts ps x k) j=netTo ps x j:=by
 unfold mx netOuts
 rw [List.getElem?_map,List.getElem?_range (by omega)]
 rfl
abbrev sawOne (ps:List Lay) (x:Mat):List Mat:=netOuts ps x ps.length
theorem netBackFault_zero {ls:List Lay} {ss:List Mat} (h1:ls.length≤12) (h2:ss.length=ls.length+1) (hg:g.fault=0) (h:bF ls ss g ls.length ls.length=0):netBackFault ls ss g=0:=by
 unfold netBackFault
 rw [if_neg (by omega),if_neg (by omega)]
 by_cases h3:ls.length=0
 ·rw [if_pos h3];exact hg
 ·rw [if_neg h3];exact h
end
end Gal
end
section
namespace Gal
def pairFault (a b:Grd):Int:=if lossFault a.W b.W=0 then lossFault a.B b.B else lossFault a.W b.W
theorem pairFault_w {a b:Grd} (h:lossFault a.W b.W≠0):pairFault a b=lossFault a.W b.W:=if_neg h
theorem pairFault_b {a b:Grd} (h:lossFault a.W b.W=0):pairFault a b=lossFault a.B b.B:=if_pos h
def gatherFaultTo (az0 bs:List Grd):Nat→Int
 | 0=>0
 | k+1=>if gatherFaultTo az0 bs k=0 then pairFault (gx az0 k) (gx bs k) else gatherFaultTo az0 bs k
def gatherFault (az0 bs:List Grd):Int:=if az0.length=bs.length then gatherFaultTo az0 bs az0.length else 2
theorem gather_next {az0 bs:List Grd} {k:Nat} (h:gatherFaultTo az0 bs k=0):gatherFaultTo az0 bs (k+1)=pairFault (gx az0 k) (gx bs k):=if_pos h
theorem gather_stays {az0 bs:List Grd} {k m:Nat} (h:k≤m) (hk:gatherFaultTo az0 bs k≠0):gatherFaultTo az0 bs m=gatherFaultTo az0 bs k:=by
  induction m with
  | zero => obtain rfl:k=0:=by omega
            rfl
  | succ m ih=>
    rcases Nat.lt_or_ge k (m+1) with h1|h1
    · have e:=ih (by omega)
      show (if gatherFaultTo az0 bs m=0 then _ else _)=_
      rw [if_neg (by rw [e];exact hk),e]
    · obtain rfl:k=m+1:=by omega
      rfl
theorem gather_stop {az0 bs:List Grd} {t n:Nat} (ht:t<n) (hz:gatherFaultTo az0 bs t=0) (hp:pairFault (gx az0 t) (gx bs t)≠0):gatherFaultTo az0 bs n=pairFault (gx az0 t) (gx bs t):=by
 rw [gather_stays (k:=t+1) (by omega) (by rw [gather_next hz];exact hp),gather_next hz]
def pairSum (a b:Grd):Grd:=⟨matAdd a.W b.W,matAdd a.B b.B⟩
def gatherTo (az0 bs:List Grd) (k:Nat):List Grd:=(List.range k).map fun i=>pairSum (gx az0 i) (gx bs i)
theorem gatherTo_length (az0 bs:List Grd) (k:Nat):(gatherTo az0 bs k).length=k:=by simp [gatherTo]
theorem gatherTo_succ (az0 bs:List Grd) (k:Nat):gatherTo az0 bs (k+1)=gatherTo az0 bs k++[pairSum (gx az0 k) (gx bs k)]:=by simp [gatherTo,List.range_succ]
end Gal
end
section
namespace Gal
def zeroMat (m:Mat):Mat:=⟨m.rows,m.cols,zeros m.cells.length⟩
def zeroGrd (l:Lay):Grd:=⟨zeroMat l.W,zeroMat l.B⟩
def zeroNet (ls:List Lay):List Grd:=ls.map zeroGrd
theorem zeroNet_length (ls:List Lay):(zeroNet ls).length=ls.length:=by simp [zeroNet]
theorem zeroNet_gx (ls:List Lay) (k:Nat):gx (zeroNet ls) k=zeroGrd (lx ls k):=by
 unfold gx lx zeroNet
 rw [List.getElem?_map]
 cases ls[k]? with
 | some l=>rfl
 | none=>rfl
theorem zeroMat_fault {m:Mat} (h:m.fault=0):(zeroMat m).fault=0:=by
 obtain ⟨R,C,hr,hc,hR,hC,hl,he⟩:=matFault_ok h
 show matFault m.rows m.cols (zeros m.cells.length)=0
 rw [hr,hc]
 exact matFault_zero hR hC (by rw [zeros_length];exact hl) (zeros_inEnds _)
theorem fits_mk {l:Lay} {v d:Grd} (h0:l.fault=0) (h1:v.W.fault=0) (h2:v.B.fault=0) (h3:d.W.fault=0) (h4:d.B.fault=0)
  (h5:likeShape v.W l.W) (h6:likeShape v.B l.B) (h7:likeShape d.W l.W) (h8:likeShape d.B l.B):fitsFault l v d=0:=by
 unfold fitsFault
 rw [if_neg (by simp [h0]),if_neg (by simp [h1]),if_neg (by simp [h2]),if_neg (by simp [h3]),if_neg (by simp [h4]),if_pos ⟨h5,h6,h7,h8⟩]
theorem stepFaultTo_all {ls:List Lay} {vs ds:List Grd}:∀ {n:Nat},stepFaultTo ls vs ds n=0→∀ k,k<n→fitsFault (lx ls k) (gx vs k) (gx ds k)=0
 | 0,_,k,hk=>absurd hk (Nat.not_lt_zero _)
 | n+1,h,k,hk=>by
  have h':stepFaultTo ls vs ds n=0:=by
   by_cases q:stepFaultTo ls vs ds n=0
   ·exact q
   ·exact absurd ((stepFaultTo_stop (Nat.le_succ n) q).symm.trans h) q
  rcases Nat.lt_or_ge k n with g|g
  ·exact stepFaultTo_all h' k g
  ·obtain rfl:k=n:=by omega
   rw [stepFaultTo_succ h'] at h
   exact h
theorem stepFaultTo_none {ls:List Lay} {vs ds:List Grd}:∀ {n:Nat},(∀ k,k<n→fitsFault (lx ls k) (gx vs k) (gx ds k)=0)→stepFaultTo ls vs ds n=0
 | 0,_=>rfl
 | n+1,h=>by
  rw [stepFaultTo_succ (stepFaultTo_none fun k hk=>h k (by omega))]
  exact h n (Nat.lt_succ_self n)
theorem stepFault_ok {ls:List Lay} {vs ds:List Grd} {ln kp:Int} (h:stepFault ls vs ds ln kp=0) :
  (0≤ln∧ln≤256∧0≤kp∧kp≤256)∧ls.length≤12∧vs.length=ls.length∧ds.length=ls.length∧∀ k,k<ls.length→fitsFault (lx ls k) (gx vs k) (gx ds k)=0:=by
 unfold stepFault at h
 by_cases h1:ln<0∨256<ln∨kp<0∨256<kp
 ·rw [if_pos h1] at h;omega
 ·rw [if_neg h1] at h
  by_cases h2:12<ls.length
  ·rw [if_pos h2] at h;omega
  ·rw [if_neg h2] at h
   by_cases h3:vs.length≠ls.length∨ds.length≠ls.length
   ·rw [if_pos h3] at h;omega
   ·rw [if_neg h3] at h
    exact ⟨by omega,by omega,by omega,by omega,stepFaultTo_all h⟩
theorem stepFault_none {ls:List Lay} {vs ds:List Grd} {ln kp:Int} (h1:0≤ln∧ln≤256∧0≤kp∧kp≤256) (h2:ls.length≤12) (h3:vs.length=ls.length) (h4:ds.length=ls.length)
  (h:∀ k,k<ls.length→fitsFault (lx ls k) (gx vs k) (gx ds k)=0):stepFault ls vs ds ln kp=0:=by
 unfold stepFault
 rw [if_neg (by omega),if_neg (by omega),if_neg (by omega)]
 exact stepFaultTo_none h
section
variable {ls:List Lay} {vs ds:List Grd} {ln kp:Int} (h:stepFault ls vs ds ln kp=0)
include h
end
end Gal
end
